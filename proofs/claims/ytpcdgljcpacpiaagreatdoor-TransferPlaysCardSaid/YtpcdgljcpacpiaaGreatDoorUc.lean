/- The document's Send, Recv, Refund. -/
import Derived.Test.YtpcdgljcpacpiaaGreatDoorUa
import Derived.Test.YtpcdgljcpacpiaaGreatDoorPj
import Derived.Test.YtpcdgljcpacpiaaGreatDoorBh
import Derived.Test.YtpcdgljcpacpiaaGreatDoorBi
import Derived.Test.YtpcdgljcpacpiaaGreatDoorBn
set_option maxRecDepth 20000
namespace Go.Proofs.YtpcdgljcpacpiaaGreatDoor
open Go.RowKit
attribute [local go_sem ↓] Go.wp_at_zero Go.wp_at_succ
set_option maxHeartbeats 16000000 in
set_option maxRecDepth 100000 in
theorem rsend_any (v : Value) (E : List Ent) (sq ht tm : Int) (s k d f g : ByteArray) (n : Nat) (w : World) (hv : Ents w v E) (hs : Srt E) (hl : E.length ≤ 1800) (zs : s.size ≤ 1000000) (zk : k.size ≤ 1000000) (zd : d.size ≤ 1000000) (zf : f.size ≤ 1000000) (zg : g.size ≤ 1000000) (hn : W256 n) : Calls Tryz.prog 11 #[v, .agg #[.int .i64 sq, .string s, .string k, .string d, .int .u64 (limb n 0), .int .u64 (limb n 1), .int .u64 (limb n 2), .int .u64 (limb n 3), .string f, .string g, .int .i64 ht, .int .i64 tm]] w (Rres17 (sendL E sq ht tm s k d f g n) w) := by
  obtain ⟨q, cap, rfl⟩ := hv.len
  rcases hR : sendL E sq ht tm s k d f g n with ⟨x, L⟩
  have hb0 := BW_alloc (BW_refl w) (.cells #[.int .i64 sq, .string s, .string k, .string d, .int .u64 (limb n 0), .int .u64 (limb n 1), .int .u64 (limb n 2), .int .u64 (limb n 3), .string f, .string g, .int .i64 ht, .int .i64 tm] 35)
  have kp := blk1 w 35 #[.int .i64 sq, .string s, .string k, .string d, .int .u64 (limb n 0), .int .u64 (limb n 1), .int .u64 (limb n 2), .int .u64 (limb n 3), .string f, .string g, .int .i64 ht, .int .i64 tm]
  have hv0 := Lib.hid (hv.on hb0)
  clear hv
  have cp := fun i => kp.cell i
  have HC := fun w => r13check_any sq ht tm s k d f g n w zs zk zd zf zg hn
  have HH := fun w => rhome17_any sq ht tm s k d f g n w zs (by omega)
  obtain ⟨t1, h1, a1⟩ := cat_big ⟨#[101, 115, 99, 114, 111, 119, 47]⟩ s (by show 7 + s.size ≤ _; omega)
  have H1 : Hid (t1 = escB s) := Lib.hid (byt_of (by rw [h1]; rfl))
  clear h1
  replace hR : sel17 (okP sq ht tm (bysN s) (bysN k) (bysN d) (bysN f) (bysN g) n) (homeB s d) (burnL E f d n) (moveL E f (escB s) d n) = (x, L) := hR
  cases hok : okP sq ht tm (bysN s) (bysN k) (bysN d) (bysN f) (bysN g) n
  · rw [hok, show chkN false = 1 from rfl] at HC
    rw [hok] at hR
    obtain ⟨rfl, rfl⟩ := Prod.mk.inj (show (1, []) = (x, L) from hR)
    replace HC := Lib.hid HC
    clear hok hR HH
    go_enter Tryz.func11, Tryz.ntmps11
    go_wp2_with fail
    refine (HC.out _).mono ?_
    rintro e w3 ⟨rfl, hb3⟩
    clear HC cp
    replace kp := kp.on hb3
    replace hv0 := Lib.hid (hv0.out.on hb3)
    replace hb0 := BW_on hb0 hb3
    go_wp2_with fail
    go_ret2
    exact ⟨_, rfl, Ents.nil _, hb0⟩
  · rw [hok, show chkN true = 0 from rfl] at HC
    rw [hok] at hR
    replace HC := Lib.hid HC
    clear hok
    cases hh : homeB s d
    · rw [hh] at HH hR
      have hR' : moveL E f (escB s) d n = (x, L) := hR
      replace HH := Lib.hid HH
      have C := fun w hv => r11move_any (.slice q E.length cap) E f (escB s) d n w hv hs hl hn
      rw [hR'] at C
      rw [← H1.out] at C
      replace C := Lib.hid C
      clear hh hR hR'
      go_enter Tryz.func11, Tryz.ntmps11
      go_wp2_with fail
      refine (HC.out _).mono ?_
      rintro e w3 ⟨rfl, hb3⟩
      clear HC cp
      replace kp := kp.on hb3
      replace hv0 := Lib.hid (hv0.out.on hb3)
      replace hb0 := BW_on hb0 hb3
      have cp := fun i => kp.cell i
      go_wp2_with fail
      refine (HH.out _).mono ?_
      rintro e w4 ⟨rfl, hb4⟩
      clear HH cp
      replace kp := kp.on hb4
      replace hv0 := Lib.hid (hv0.out.on hb4)
      replace hb0 := BW_on hb0 hb4
      have cp := fun i => kp.cell i
      go_wp2_with fail
      refine (C.out _ hv0.out).mono ?_
      rintro e w5 ⟨v5, rfl, hen, hb5⟩
      clear C cp
      replace hb0 := BW_on hb0 hb5
      go_wp2_with fail
      go_ret2
      exact ⟨_, rfl, hen, hb0⟩
    · rw [hh] at HH hR
      have hR' : burnL E f d n = (x, L) := hR
      replace HH := Lib.hid HH
      have C := fun w hv => r11burn_any (.slice q E.length cap) E f d n w hv hs hl hn
      rw [hR'] at C
      replace C := Lib.hid C
      clear hh hR hR'
      go_enter Tryz.func11, Tryz.ntmps11
      go_wp2_with fail
      refine (HC.out _).mono ?_
      rintro e w3 ⟨rfl, hb3⟩
      clear HC cp
      replace kp := kp.on hb3
      replace hv0 := Lib.hid (hv0.out.on hb3)
      replace hb0 := BW_on hb0 hb3
      have cp := fun i => kp.cell i
      go_wp2_with fail
      refine (HH.out _).mono ?_
      rintro e w4 ⟨rfl, hb4⟩
      clear HH cp
      replace kp := kp.on hb4
      replace hv0 := Lib.hid (hv0.out.on hb4)
      replace hb0 := BW_on hb0 hb4
      have cp := fun i => kp.cell i
      go_wp2_with fail
      refine (C.out _ hv0.out).mono ?_
      rintro e w5 ⟨v5, rfl, hen, hb5⟩
      clear C cp
      replace hb0 := BW_on hb0 hb5
      go_wp2_with fail
      go_ret2
      exact ⟨_, rfl, hen, hb0⟩
set_option maxHeartbeats 16000000 in
set_option maxRecDepth 100000 in
theorem rrecv_any (v : Value) (E : List Ent) (sq ht tm : Int) (s k d f g : ByteArray) (n : Nat) (w : World) (hv : Ents w v E) (hs : Srt E) (hl : E.length ≤ 1800) (zs : s.size ≤ 1000000) (zk : k.size ≤ 400000) (zd : d.size ≤ 400000) (zf : f.size ≤ 1000000) (zg : g.size ≤ 1000000) (hn : W256 n) : Calls Tryz.prog 13 #[v, .agg #[.int .i64 sq, .string s, .string k, .string d, .int .u64 (limb n 0), .int .u64 (limb n 1), .int .u64 (limb n 2), .int .u64 (limb n 3), .string f, .string g, .int .i64 ht, .int .i64 tm]] w (Rres17 (recvL E sq ht tm s k d f g n) w) := by
  obtain ⟨q, cap, rfl⟩ := hv.len
  rcases hR : recvL E sq ht tm s k d f g n with ⟨x, L⟩
  have hb0 := BW_alloc (BW_refl w) (.cells #[.int .i64 sq, .string s, .string k, .string d, .int .u64 (limb n 0), .int .u64 (limb n 1), .int .u64 (limb n 2), .int .u64 (limb n 3), .string f, .string g, .int .i64 ht, .int .i64 tm] 35)
  have kp := blk1 w 35 #[.int .i64 sq, .string s, .string k, .string d, .int .u64 (limb n 0), .int .u64 (limb n 1), .int .u64 (limb n 2), .int .u64 (limb n 3), .string f, .string g, .int .i64 ht, .int .i64 tm]
  have hv0 := Lib.hid (hv.on hb0)
  clear hv
  have cp := fun i => kp.cell i
  have HC := fun w => r13check_any sq ht tm s k d f g n w zs (by omega) (by omega) zf zg hn
  have HH := fun w => rhome17_any sq ht tm s k d f g n w zs (by omega)
  obtain ⟨t1, h1, a1⟩ := cat_big ⟨#[101, 115, 99, 114, 111, 119, 47]⟩ k (by show 7 + k.size ≤ _; omega)
  have H1 : Hid (t1 = escB k) := Lib.hid (byt_of (by rw [h1]; rfl))
  clear h1
  have za := arr_size s k d
  have HA := fun w => rarr17_any sq ht tm s k d f g n w zs (by omega) (by omega)
  have hR2 : (if okDen (bysN (arrB s k d)) = true then sel17 (okP sq ht tm (bysN s) (bysN k) (bysN d) (bysN f) (bysN g) n) (homeB s d) (moveL E (escB k) g (arrB s k d) n) (mintL E g (arrB s k d) n) else (1, [])) = (x, L) := hR
  clear hR
  generalize arrB s k d = dn at *
  have zdn : dn.size ≤ 1000000 := by omega
  replace HA := Lib.hid HA
  have HK := fun w => r12check_any dn w zdn
  cases ho : okDen (bysN dn)
  · rw [ho] at HK hR2
    obtain ⟨rfl, rfl⟩ := Prod.mk.inj (show (1, []) = (x, L) from hR2)
    replace HK := Lib.hid HK
    clear ho hR2 HH
    cases hok : okP sq ht tm (bysN s) (bysN k) (bysN d) (bysN f) (bysN g) n
    · rw [hok, show chkN false = 1 from rfl] at HC
      replace HC := Lib.hid HC
      clear hok
      go_enter Tryz.func13, Tryz.ntmps13
      go_wp2_with fail
      refine (HA.out _).mono ?_
      rintro e w1 ⟨rfl, hb1⟩
      clear HA cp
      replace kp := kp.on hb1
      replace hv0 := Lib.hid (hv0.out.on hb1)
      replace hb0 := BW_on hb0 hb1
      go_wp2_with fail
      refine (HK.out _).mono ?_
      rintro e w2 ⟨rfl, hb2⟩
      clear HK hb1
      replace kp := kp.on hb2
      replace hv0 := Lib.hid (hv0.out.on hb2)
      replace hb0 := BW_on hb0 hb2
      have cp := fun i => kp.cell i
      go_wp2_with fail
      refine (HC.out _).mono ?_
      rintro e w3 ⟨rfl, hb3⟩
      clear HC hb2 cp
      replace kp := kp.on hb3
      replace hv0 := Lib.hid (hv0.out.on hb3)
      replace hb0 := BW_on hb0 hb3
      go_wp2_with fail
      go_ret2
      exact ⟨_, rfl, Ents.nil _, hb0⟩
    · rw [hok, show chkN true = 0 from rfl] at HC
      replace HC := Lib.hid HC
      clear hok
      go_enter Tryz.func13, Tryz.ntmps13
      go_wp2_with fail
      refine (HA.out _).mono ?_
      rintro e w1 ⟨rfl, hb1⟩
      clear HA cp
      replace kp := kp.on hb1
      replace hv0 := Lib.hid (hv0.out.on hb1)
      replace hb0 := BW_on hb0 hb1
      go_wp2_with fail
      refine (HK.out _).mono ?_
      rintro e w2 ⟨rfl, hb2⟩
      clear HK hb1
      replace kp := kp.on hb2
      replace hv0 := Lib.hid (hv0.out.on hb2)
      replace hb0 := BW_on hb0 hb2
      have cp := fun i => kp.cell i
      go_wp2_with fail
      refine (HC.out _).mono ?_
      rintro e w3 ⟨rfl, hb3⟩
      clear HC hb2 cp
      replace kp := kp.on hb3
      replace hv0 := Lib.hid (hv0.out.on hb3)
      replace hb0 := BW_on hb0 hb3
      go_wp2_with fail
      go_ret2
      exact ⟨_, rfl, Ents.nil _, hb0⟩
  · rw [ho] at HK hR2
    replace HK := Lib.hid HK
    have hR : sel17 (okP sq ht tm (bysN s) (bysN k) (bysN d) (bysN f) (bysN g) n) (homeB s d) (moveL E (escB k) g dn n) (mintL E g dn n) = (x, L) := hR2
    clear ho hR2
    cases hok : okP sq ht tm (bysN s) (bysN k) (bysN d) (bysN f) (bysN g) n
    · rw [hok, show chkN false = 1 from rfl] at HC
      rw [hok] at hR
      obtain ⟨rfl, rfl⟩ := Prod.mk.inj (show (1, []) = (x, L) from hR)
      replace HC := Lib.hid HC
      clear hok hR HH
      go_enter Tryz.func13, Tryz.ntmps13
      go_wp2_with fail
      refine (HA.out _).mono ?_
      rintro e w1 ⟨rfl, hb1⟩
      clear HA cp
      replace kp := kp.on hb1
      replace hv0 := Lib.hid (hv0.out.on hb1)
      replace hb0 := BW_on hb0 hb1
      go_wp2_with fail
      refine (HK.out _).mono ?_
      rintro e w2 ⟨rfl, hb2⟩
      clear HK hb1
      replace kp := kp.on hb2
      replace hv0 := Lib.hid (hv0.out.on hb2)
      replace hb0 := BW_on hb0 hb2
      have cp := fun i => kp.cell i
      go_wp2_with fail
      refine (HC.out _).mono ?_
      rintro e w3 ⟨rfl, hb3⟩
      clear HC hb2 cp
      replace kp := kp.on hb3
      replace hv0 := Lib.hid (hv0.out.on hb3)
      replace hb0 := BW_on hb0 hb3
      go_wp2_with fail
      go_ret2
      exact ⟨_, rfl, Ents.nil _, hb0⟩
    · rw [hok, show chkN true = 0 from rfl] at HC
      rw [hok] at hR
      replace HC := Lib.hid HC
      clear hok
      cases hh : homeB s d
      · rw [hh] at HH hR
        have hR' : mintL E g dn n = (x, L) := hR
        replace HH := Lib.hid HH
        have C := fun w hv => r11mint_any (.slice q E.length cap) E g dn n w hv hs hl hn
        rw [hR'] at C
        replace C := Lib.hid C
        clear hh hR hR'
        go_enter Tryz.func13, Tryz.ntmps13
        go_wp2_with fail
        refine (HA.out _).mono ?_
        rintro e w1 ⟨rfl, hb1⟩
        clear HA cp
        replace kp := kp.on hb1
        replace hv0 := Lib.hid (hv0.out.on hb1)
        replace hb0 := BW_on hb0 hb1
        go_wp2_with fail
        refine (HK.out _).mono ?_
        rintro e w2 ⟨rfl, hb2⟩
        clear HK hb1
        replace kp := kp.on hb2
        replace hv0 := Lib.hid (hv0.out.on hb2)
        replace hb0 := BW_on hb0 hb2
        have cp := fun i => kp.cell i
        go_wp2_with fail
        refine (HC.out _).mono ?_
        rintro e w3 ⟨rfl, hb3⟩
        clear HC hb2 cp
        replace kp := kp.on hb3
        replace hv0 := Lib.hid (hv0.out.on hb3)
        replace hb0 := BW_on hb0 hb3
        have cp := fun i => kp.cell i
        go_wp2_with fail
        refine (HH.out _).mono ?_
        rintro e w4 ⟨rfl, hb4⟩
        clear HH cp
        replace kp := kp.on hb4
        replace hv0 := Lib.hid (hv0.out.on hb4)
        replace hb0 := BW_on hb0 hb4
        have cp := fun i => kp.cell i
        go_wp2_with fail
        refine (C.out _ hv0.out).mono ?_
        rintro e w5 ⟨v5, rfl, hen, hb5⟩
        clear C cp
        replace hb0 := BW_on hb0 hb5
        go_wp2_with fail
        go_ret2
        exact ⟨_, rfl, hen, hb0⟩
      · rw [hh] at HH hR
        have hR' : moveL E (escB k) g dn n = (x, L) := hR
        replace HH := Lib.hid HH
        have C := fun w hv => r11move_any (.slice q E.length cap) E (escB k) g dn n w hv hs hl hn
        rw [hR'] at C
        rw [← H1.out] at C
        replace C := Lib.hid C
        clear hh hR hR'
        go_enter Tryz.func13, Tryz.ntmps13
        go_wp2_with fail
        refine (HA.out _).mono ?_
        rintro e w1 ⟨rfl, hb1⟩
        clear HA cp
        replace kp := kp.on hb1
        replace hv0 := Lib.hid (hv0.out.on hb1)
        replace hb0 := BW_on hb0 hb1
        go_wp2_with fail
        refine (HK.out _).mono ?_
        rintro e w2 ⟨rfl, hb2⟩
        clear HK hb1
        replace kp := kp.on hb2
        replace hv0 := Lib.hid (hv0.out.on hb2)
        replace hb0 := BW_on hb0 hb2
        have cp := fun i => kp.cell i
        go_wp2_with fail
        refine (HC.out _).mono ?_
        rintro e w3 ⟨rfl, hb3⟩
        clear HC hb2 cp
        replace kp := kp.on hb3
        replace hv0 := Lib.hid (hv0.out.on hb3)
        replace hb0 := BW_on hb0 hb3
        have cp := fun i => kp.cell i
        go_wp2_with fail
        refine (HH.out _).mono ?_
        rintro e w4 ⟨rfl, hb4⟩
        clear HH cp
        replace kp := kp.on hb4
        replace hv0 := Lib.hid (hv0.out.on hb4)
        replace hb0 := BW_on hb0 hb4
        have cp := fun i => kp.cell i
        go_wp2_with fail
        refine (C.out _ hv0.out).mono ?_
        rintro e w5 ⟨v5, rfl, hen, hb5⟩
        clear C cp
        replace hb0 := BW_on hb0 hb5
        go_wp2_with fail
        go_ret2
        exact ⟨_, rfl, hen, hb0⟩
set_option maxHeartbeats 16000000 in
set_option maxRecDepth 100000 in
theorem rrefund_any (v : Value) (E : List Ent) (sq ht tm : Int) (s k d f g : ByteArray) (n : Nat) (w : World) (hv : Ents w v E) (hs : Srt E) (hl : E.length ≤ 1800) (zs : s.size ≤ 1000000) (zk : k.size ≤ 1000000) (zd : d.size ≤ 1000000) (zf : f.size ≤ 1000000) (zg : g.size ≤ 1000000) (hn : W256 n) : Calls Tryz.prog 15 #[v, .agg #[.int .i64 sq, .string s, .string k, .string d, .int .u64 (limb n 0), .int .u64 (limb n 1), .int .u64 (limb n 2), .int .u64 (limb n 3), .string f, .string g, .int .i64 ht, .int .i64 tm]] w (Rres17 (refundL E sq ht tm s k d f g n) w) := by
  obtain ⟨q, cap, rfl⟩ := hv.len
  rcases hR : refundL E sq ht tm s k d f g n with ⟨x, L⟩
  have hb0 := BW_alloc (BW_refl w) (.cells #[.int .i64 sq, .string s, .string k, .string d, .int .u64 (limb n 0), .int .u64 (limb n 1), .int .u64 (limb n 2), .int .u64 (limb n 3), .string f, .string g, .int .i64 ht, .int .i64 tm] 35)
  have kp := blk1 w 35 #[.int .i64 sq, .string s, .string k, .string d, .int .u64 (limb n 0), .int .u64 (limb n 1), .int .u64 (limb n 2), .int .u64 (limb n 3), .string f, .string g, .int .i64 ht, .int .i64 tm]
  have hv0 := Lib.hid (hv.on hb0)
  clear hv
  have cp := fun i => kp.cell i
  have HC := fun w => r13check_any sq ht tm s k d f g n w zs zk zd zf zg hn
  have HH := fun w => rhome17_any sq ht tm s k d f g n w zs (by omega)
  obtain ⟨t1, h1, a1⟩ := cat_big ⟨#[101, 115, 99, 114, 111, 119, 47]⟩ s (by show 7 + s.size ≤ _; omega)
  have H1 : Hid (t1 = escB s) := Lib.hid (byt_of (by rw [h1]; rfl))
  clear h1
  replace hR : sel17 (okP sq ht tm (bysN s) (bysN k) (bysN d) (bysN f) (bysN g) n) (homeB s d) (mintL E f d n) (moveL E (escB s) f d n) = (x, L) := hR
  cases hok : okP sq ht tm (bysN s) (bysN k) (bysN d) (bysN f) (bysN g) n
  · rw [hok, show chkN false = 1 from rfl] at HC
    rw [hok] at hR
    obtain ⟨rfl, rfl⟩ := Prod.mk.inj (show (1, []) = (x, L) from hR)
    replace HC := Lib.hid HC
    clear hok hR HH
    go_enter Tryz.func15, Tryz.ntmps15
    go_wp2_with fail
    refine (HC.out _).mono ?_
    rintro e w3 ⟨rfl, hb3⟩
    clear HC cp
    replace kp := kp.on hb3
    replace hv0 := Lib.hid (hv0.out.on hb3)
    replace hb0 := BW_on hb0 hb3
    go_wp2_with fail
    go_ret2
    exact ⟨_, rfl, Ents.nil _, hb0⟩
  · rw [hok, show chkN true = 0 from rfl] at HC
    rw [hok] at hR
    replace HC := Lib.hid HC
    clear hok
    cases hh : homeB s d
    · rw [hh] at HH hR
      have hR' : moveL E (escB s) f d n = (x, L) := hR
      replace HH := Lib.hid HH
      have C := fun w hv => r11move_any (.slice q E.length cap) E (escB s) f d n w hv hs hl hn
      rw [hR'] at C
      rw [← H1.out] at C
      replace C := Lib.hid C
      clear hh hR hR'
      go_enter Tryz.func15, Tryz.ntmps15
      go_wp2_with fail
      refine (HC.out _).mono ?_
      rintro e w3 ⟨rfl, hb3⟩
      clear HC cp
      replace kp := kp.on hb3
      replace hv0 := Lib.hid (hv0.out.on hb3)
      replace hb0 := BW_on hb0 hb3
      have cp := fun i => kp.cell i
      go_wp2_with fail
      refine (HH.out _).mono ?_
      rintro e w4 ⟨rfl, hb4⟩
      clear HH cp
      replace kp := kp.on hb4
      replace hv0 := Lib.hid (hv0.out.on hb4)
      replace hb0 := BW_on hb0 hb4
      have cp := fun i => kp.cell i
      go_wp2_with fail
      refine (C.out _ hv0.out).mono ?_
      rintro e w5 ⟨v5, rfl, hen, hb5⟩
      clear C cp
      replace hb0 := BW_on hb0 hb5
      go_wp2_with fail
      go_ret2
      exact ⟨_, rfl, hen, hb0⟩
    · rw [hh] at HH hR
      have hR' : mintL E f d n = (x, L) := hR
      replace HH := Lib.hid HH
      have C := fun w hv => r11mint_any (.slice q E.length cap) E f d n w hv hs hl hn
      rw [hR'] at C
      replace C := Lib.hid C
      clear hh hR hR'
      go_enter Tryz.func15, Tryz.ntmps15
      go_wp2_with fail
      refine (HC.out _).mono ?_
      rintro e w3 ⟨rfl, hb3⟩
      clear HC cp
      replace kp := kp.on hb3
      replace hv0 := Lib.hid (hv0.out.on hb3)
      replace hb0 := BW_on hb0 hb3
      have cp := fun i => kp.cell i
      go_wp2_with fail
      refine (HH.out _).mono ?_
      rintro e w4 ⟨rfl, hb4⟩
      clear HH cp
      replace kp := kp.on hb4
      replace hv0 := Lib.hid (hv0.out.on hb4)
      replace hb0 := BW_on hb0 hb4
      have cp := fun i => kp.cell i
      go_wp2_with fail
      refine (C.out _ hv0.out).mono ?_
      rintro e w5 ⟨v5, rfl, hen, hb5⟩
      clear C cp
      replace hb0 := BW_on hb0 hb5
      go_wp2_with fail
      go_ret2
      exact ⟨_, rfl, hen, hb0⟩
end Go.Proofs.YtpcdgljcpacpiaaGreatDoor
