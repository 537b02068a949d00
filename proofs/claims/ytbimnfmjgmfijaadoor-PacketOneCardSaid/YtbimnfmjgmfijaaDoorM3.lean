/- Pm, Pk, Pl, Pn in one text. -/
import Derived.Test.YtbimnfmjgmfijaaDoorPh
import Derived.Laws.StructEq
import Derived.Test.YtbimnfmjgmfijaaDoorPj
import Derived.Test.YtbimnfmjgmfijaaDoorPi
import Derived.Test.YtbimnfmjgmfijaaDoorPg
import Derived.Test.YtbimnfmjgmfijaaDoorPk2
namespace Go.Proofs.YtbimnfmjgmfijaaDoor
open Go.RowKit
attribute [local go_sem ↓] Go.wp_at_zero Go.wp_at_succ
theorem eqF_nil (d : Nat) (xs ys : Array Value) (w : World) : (Op.eqFields d xs ys []).run Tryd.prog w = .ok true w := by simp [Op.eqFields]
theorem eqF_cons {d : Nat} {xs ys : Array Value} {f : Field} {fs : List Field} {w : World} {a b : Value} {r q : Bool} (hn : f.name ≠ "_") (ha : (part f.type xs f.offset).run Tryd.prog w = .ok a w) (hb : (part f.type ys f.offset).run Tryd.prog w = .ok b w)
    (hr : (Op.equalIn d f.type a b).run Tryd.prog w = .ok r w) (hq : (Op.eqFields d xs ys fs).run Tryd.prog w = .ok q w) : (Op.eqFields d xs ys (f :: fs)).run Tryd.prog w = .ok (r && q) w := by
  simp only [Op.eqFields, if_pos hn, Sem.run_bind, ha, hb, hr, Result.andThen_ok]
  cases r
  · simp
  · simpa using hq
theorem eqW4 (a b c d a' b' c' d' : Int) (m : Nat) (w : World) : (Op.equalIn (m + 2) 26 (.agg #[.int .u64 a, .int .u64 b, .int .u64 c, .int .u64 d]) (.agg #[.int .u64 a', .int .u64 b', .int .u64 c', .int .u64 d'])).run Tryd.prog w = .ok (a == a' && (b == b' && (c == c' && d == d'))) w := by
  have u3 := Tryd.underlying24
  have a3 := Tryd.isAgg24
  have z3 := Tryd.sizeOf24
  rw [Op.equalIn]
  simp only [Sem.run_bind, run_underlying Tryd.underlying26, Result.andThen_ok]
  simp only [Std.Legacy.Range.forIn_eq_forIn_range', Std.Legacy.Range.size, Nat.sub_zero, Nat.add_sub_cancel, Nat.div_one, List.range'_succ, List.range'_zero, List.forIn_cons, List.forIn_nil]
  go_simp
  by_cases h1 : a = a' <;> by_cases h2 : b = b' <;> by_cases h3 : c = c' <;> by_cases h4 : d = d' <;> simp [h1, h2, h3, h4]
theorem eqS (m : Nat) (a b : ByteArray) (w : World) : (Op.equalIn (m + 1) 9 (.string a) (.string b)).run Tryd.prog w = .ok (decide (bysN a = bysN b)) w := by
  rw [run_equalIn_string w m 9 a b Tryd.underlying9, toList_beq]
theorem eqI (m : Nat) (a b : Int) (w : World) : (Op.equalIn (m + 1) 3 (.int .i64 a) (.int .i64 b)).run Tryd.prog w = .ok (a == b) w := by
  have ui := Tryd.underlying3
  rw [Op.equalIn]
  simp only [Sem.run_bind, run_underlying Tryd.underlying3, Result.andThen_ok]
  go_simp
set_option maxRecDepth 100000 in
theorem eqCoin (a0 a1 a2 a3 b0 b1 b2 b3 : Int) (d f g d' f' g' : ByteArray) (m : Nat) (w : World) : (Op.equalIn (m + 3) 28 (.agg #[.string d, .int .u64 a0, .int .u64 a1, .int .u64 a2, .int .u64 a3, .string f, .string g]) (.agg #[.string d', .int .u64 b0, .int .u64 b1, .int .u64 b2, .int .u64 b3, .string f', .string g'])).run Tryd.prog w =
    .ok (decide (bysN d = bysN d') && ((a0 == b0 && (a1 == b1 && (a2 == b2 && a3 == b3))) && (decide (bysN f = bysN f') && (decide (bysN g = bysN g') && true)))) w := by
  have hS : Tryd.prog.underlying 28 = some (.struct (Tryd.prog.fieldsOf 28)) := by kernel_rfl
  have hp : Tryd.prog.stoodInHeld 28 = false := by kernel_rfl
  have a9 := Tryd.isAgg9
  have z9 := Tryd.sizeOf9
  have aw := Tryd.isAgg26
  have zw := Tryd.sizeOf26
  rw [run_equalIn_agg w (m + 2) 28 _ _ hS hp]
  simp only [Program.fieldsOf, Tryd.underlying28]
  refine eqF_cons (a := .string d) (b := .string d') (by decide) (by simp [part, go_sem, a9]) (by simp [part, go_sem, a9]) (eqS _ _ _ _) ?_
  refine eqF_cons (a := .agg #[.int .u64 a0, .int .u64 a1, .int .u64 a2, .int .u64 a3]) (b := .agg #[.int .u64 b0, .int .u64 b1, .int .u64 b2, .int .u64 b3]) (by decide) (by simp [part, go_sem, aw, zw]) (by simp [part, go_sem, aw, zw]) (eqW4 _ _ _ _ _ _ _ _ _ _) ?_
  refine eqF_cons (a := .string f) (b := .string f') (by decide) (by simp [part, go_sem, a9]) (by simp [part, go_sem, a9]) (eqS _ _ _ _) ?_
  refine eqF_cons (a := .string g) (b := .string g') (by decide) (by simp [part, go_sem, a9]) (by simp [part, go_sem, a9]) (eqS _ _ _ _) ?_
  exact eqF_nil _ _ _ _
set_option maxRecDepth 100000 in
theorem eqPkt (q h t q' h' t' a0 a1 a2 a3 b0 b1 b2 b3 : Int) (s k d f g s' k' d' f' g' : ByteArray) (w : World) :
    (Op.equalIn 10000 30 (.agg #[.int .i64 q, .string s, .string k, .string d, .int .u64 a0, .int .u64 a1, .int .u64 a2, .int .u64 a3, .string f, .string g, .int .i64 h, .int .i64 t]) (.agg #[.int .i64 q', .string s', .string k', .string d', .int .u64 b0, .int .u64 b1, .int .u64 b2, .int .u64 b3, .string f', .string g', .int .i64 h', .int .i64 t'])).run Tryd.prog w =
    .ok (q == q' && (decide (bysN s = bysN s') && (decide (bysN k = bysN k') && ((decide (bysN d = bysN d') && ((a0 == b0 && (a1 == b1 && (a2 == b2 && a3 == b3))) && (decide (bysN f = bysN f') && (decide (bysN g = bysN g') && true)))) && (h == h' && (t == t' && true)))))) w := by
  have hS : Tryd.prog.underlying 30 = some (.struct (Tryd.prog.fieldsOf 30)) := by kernel_rfl
  have hp : Tryd.prog.stoodInHeld 30 = false := by kernel_rfl
  have a9 := Tryd.isAgg9
  have z9 := Tryd.sizeOf9
  have ai := Tryd.isAgg3
  have zi := Tryd.sizeOf3
  have ac : ∀ w, (isAgg 28).run Tryd.prog w = .ok true w := Tryd.isAgg28
  have zc : ∀ w, (sizeOf 28).run Tryd.prog w = .ok 7 w := Tryd.sizeOf28
  rw [show (10000 : Nat) = 9999 + 1 from rfl, run_equalIn_agg w 9999 30 _ _ hS hp]
  simp only [Program.fieldsOf, Tryd.underlying30]
  refine eqF_cons (a := .int .i64 q) (b := .int .i64 q') (by decide) (by simp [part, go_sem, ai]) (by simp [part, go_sem, ai]) (eqI _ _ _ _) ?_
  refine eqF_cons (a := .string s) (b := .string s') (by decide) (by simp [part, go_sem, a9]) (by simp [part, go_sem, a9]) (eqS _ _ _ _) ?_
  refine eqF_cons (a := .string k) (b := .string k') (by decide) (by simp [part, go_sem, a9]) (by simp [part, go_sem, a9]) (eqS _ _ _ _) ?_
  refine eqF_cons (a := .agg #[.string d, .int .u64 a0, .int .u64 a1, .int .u64 a2, .int .u64 a3, .string f, .string g]) (b := .agg #[.string d', .int .u64 b0, .int .u64 b1, .int .u64 b2, .int .u64 b3, .string f', .string g']) (by decide) (by simp [part, go_sem, ac, zc]) (by simp [part, go_sem, ac, zc]) (eqCoin _ _ _ _ _ _ _ _ _ _ _ _ _ _ _ _) ?_
  refine eqF_cons (a := .int .i64 h) (b := .int .i64 h') (by decide) (by simp [part, go_sem, ai]) (by simp [part, go_sem, ai]) (eqI _ _ _ _) ?_
  refine eqF_cons (a := .int .i64 t) (b := .int .i64 t') (by decide) (by simp [part, go_sem, ai]) (by simp [part, go_sem, ai]) (eqI _ _ _ _) ?_
  exact eqF_nil _ _ _ _
theorem eqPkt_refl (q h t a0 a1 a2 a3 : Int) (s k d f g : ByteArray) (w : World) : (Op.equalIn 10000 30 (.agg #[.int .i64 q, .string s, .string k, .string d, .int .u64 a0, .int .u64 a1, .int .u64 a2, .int .u64 a3, .string f, .string g, .int .i64 h, .int .i64 t]) (.agg #[.int .i64 q, .string s, .string k, .string d, .int .u64 a0, .int .u64 a1, .int .u64 a2, .int .u64 a3, .string f, .string g, .int .i64 h, .int .i64 t])).run Tryd.prog w = .ok true w := by
  rw [eqPkt]
  simp
end Go.Proofs.YtbimnfmjgmfijaaDoor
namespace Go.Proofs.YtbimnfmjgmfijaaDoor
open Go.RowKit
attribute [local go_sem ↓] Go.wp_at_zero Go.wp_at_succ
def pz12 : Array Value := #[.int .i64 0, .string ⟨#[]⟩, .string ⟨#[]⟩, .string ⟨#[]⟩, .int .u64 0, .int .u64 0, .int .u64 0, .int .u64 0, .string ⟨#[]⟩, .string ⟨#[]⟩, .int .i64 0, .int .i64 0]
/-- What stands as a packet is read: the answer's box, the reader, where it lies, the packet. -/
structure PR (w0 w : World) (tt rb pb gp : Nat) (T : ByteArray) (bad : Bool) (pc : Array Value) : Prop where
  hR : Blk w rb tt #[.string T, .bool bad]
  h0 : Blk w w0.heap.size 30 #[.int .i64 0, .string ⟨#[]⟩, .string ⟨#[]⟩, .string ⟨#[]⟩, .int .u64 0, .int .u64 0, .int .u64 0, .int .u64 0, .string ⟨#[]⟩, .string ⟨#[]⟩, .int .i64 0, .int .i64 0]
  h2 : pb = rb ∨ Blk w pb 48 #[.pointer (some ⟨rb, 0, none⟩)]
  h3 : Blk w gp 30 pc
  hb : Below w0.heap.size w0 w
theorem PR.call {w0 w w' : World} {tt rb pb gp : Nat} {T T' : ByteArray} {bad bad' : Bool} {pc : Array Value} (h : PR w0 w tt rb pb gp T bad pc) (hr : w0.heap.size < rb) (hg : gp ≠ rb) (hk : Kept rb w w') (hR' : Blk w' rb tt #[.string T', .bool bad']) : PR w0 w' tt rb pb gp T' bad' pc :=
  ⟨hR', h.h0.keptK hk (by omega), by
    rcases h.h2 with e | e
    · exact .inl e
    · by_cases hp : pb = rb
      · exact .inl hp
      · exact .inr (e.keptK hk hp), h.h3.keptK hk hg, below_kept h.hb (by omega) h.hb.size hk⟩
theorem PR.set {w0 w : World} {tt rb pb gp : Nat} {T : ByteArray} {bad : Bool} {pc : Array Value} (h : PR w0 w tt rb pb gp T bad pc) (hg : rb ≠ gp) (hg0 : w0.heap.size < gp) (hp : pb ≠ gp) (i : Nat) (v : Value) : PR w0 (w.setCell ⟨gp, i, none⟩ v) tt rb pb gp T bad (pc.setIfInBounds i v) :=
  ⟨h.hR.far hg v, h.h0.far (by show w0.heap.size ≠ gp; omega) v, h.h2.imp id (fun e => e.far hp v), h.h3.set_ i v, h.hb.setCell (by show w0.heap.size ≤ gp; omega) v⟩
theorem PR.on {w0 w w' : World} {tt rb pb gp : Nat} {T : ByteArray} {bad : Bool} {pc : Array Value} (h : PR w0 w tt rb pb gp T bad pc) (hb : Below w.heap.size w w') : PR w0 w' tt rb pb gp T bad pc :=
  ⟨h.hR.on hb, h.h0.on hb, h.h2.imp id (fun e => e.on hb), h.h3.on hb, BW_on h.hb hb⟩
theorem PR.alloc {w0 w : World} {tt rb pb gp : Nat} {T : ByteArray} {bad : Bool} {pc : Array Value} (h : PR w0 w tt rb pb gp T bad pc) (o : Obj) : PR w0 (w.alloc o) tt rb pb gp T bad pc :=
  ⟨h.hR.alloc o, h.h0.alloc o, h.h2.imp id (fun e => e.alloc o), h.h3.alloc o, BW_alloc h.hb o⟩
theorem tlvread_any (T : ByteArray) (w : World) : Calls Tryd.prog 25 #[.string T] w fun e w' => e = .returned (.pointer (some ⟨w.heap.size, 0, none⟩)) ∧ w.alloc (.cells #[.string T, .bool false] 71) = w' := by
  go_enter Tryd.func25, Tryd.ntmps25
  go_wp2
  go_ret
  exact ⟨rfl, rfl⟩
theorem pkread1_any (c rb pb : Nat) (T : ByteArray) (bad : Bool) (w : World) (hR : Blk w rb 71 #[.string T, .bool bad]) (hT : T.size ≤ 1000000) (hp : Blk w pb 48 #[.pointer (some ⟨rb, 0, none⟩)]) :
    Calls Tryd.prog 27 #[.int .u8 (c : Int), .pointer (some ⟨pb, 0, none⟩)] w fun e w' => ReadsT 71 rb w T (rText c 1000 (bysN T) bad) e w' := by
  have c0 := hp.cell 0
  have H := Lib.hid (trdtext_any c 1000 rb T bad w hR hT)
  go_enter Tryd.func27, Tryd.ntmps27
  go_wp2_with (go_at_call 28; refine H.out.mono ?_)
  rintro e w' ⟨t, T', bad', rfl, h1, h2, h3, h4⟩
  go_wp2_with fail
  go_ret
  exact rdt t T' bad' rfl h1 h2 h3 h4
/-- The parts of a packet, one read behind the other. -/
def Chain (mA : Nat) (l : List Nat) (q h t : Nat) (s k d a f g le : List Nat) (be : Bool) : Prop :=
  ∃ l1 b1 l2 b2 l3 b3 l4 b4 l5 b5 l6 b6 l7 b7 l8 b8, (q, l1, b1) = rInt 113 1099511627776 l false ∧ (h, l2, b2) = rInt 104 1099511627776 l1 b1 ∧ (t, l3, b3) = rInt 116 1099511627776 l2 b2 ∧
    (s, l4, b4) = rText 115 1000 l3 b3 ∧ (k, l5, b5) = rText 107 1000 l4 b4 ∧ (d, l6, b6) = rText 100 1000 l5 b5 ∧ (a, l7, b7) = rText 97 mA l6 b6 ∧ (f, l8, b8) = rText 102 1000 l7 b7 ∧ (g, le, be) = rText 103 1000 l8 b8
/-- What is read: the packet's cells and the answer's error. -/
def RdRes (mA : Nat) (T : ByteArray) (w : World) (e : Ending) (w' : World) : Prop :=
  ∃ (q h t : Nat) (s k d a f g : ByteArray) (le : List Nat) (be : Bool), Chain mA (bysN T) q h t (bysN s) (bysN k) (bysN d) (bysN a) (bysN f) (bysN g) le be ∧ Below w.heap.size w w' ∧
    ((a.size = 32 ∧ rEnd le be = false ∧ okP q h t (bysN s) (bysN k) (bysN d) (bysN f) (bysN g) (unb a.data.toList) = true ∧
        e = .returned (.tuple #[.agg #[.int .i64 q, .string s, .string k, .string d, .int .u64 (limb (unb a.data.toList) 0), .int .u64 (limb (unb a.data.toList) 1), .int .u64 (limb (unb a.data.toList) 2), .int .u64 (limb (unb a.data.toList) 3), .string f, .string g, .int .i64 h, .int .i64 t], .int .i64 0])) ∨
      ((a.size ≠ 32 ∨ rEnd le be = true ∨ okP q h t (bysN s) (bysN k) (bysN d) (bysN f) (bysN g) (unb a.data.toList) = false) ∧ e = .returned (.tuple #[.agg #[.int .i64 0, .string ⟨#[]⟩, .string ⟨#[]⟩, .string ⟨#[]⟩, .int .u64 0, .int .u64 0, .int .u64 0, .int .u64 0, .string ⟨#[]⟩, .string ⟨#[]⟩, .int .i64 0, .int .i64 0], .int .i64 10])))
theorem Blk.store12 {w : World} {g : Nat} {t : TypeId} {p0 p1 p2 p3 p4 p5 p6 p7 p8 p9 p10 p11 : Value} (h : Blk w g t #[p0, p1, p2, p3, p4, p5, p6, p7, p8, p9, p10, p11]) (v0 v1 v2 v3 v4 v5 v6 v7 v8 v9 v10 v11 : Value) : Blk ((((((((((((w.setCell ⟨g, 0, none⟩ v0).setCell ⟨g, 1, none⟩ v1).setCell ⟨g, 2, none⟩ v2).setCell ⟨g, 3, none⟩ v3).setCell ⟨g, 4, none⟩ v4).setCell ⟨g, 5, none⟩ v5).setCell ⟨g, 6, none⟩ v6).setCell ⟨g, 7, none⟩ v7).setCell ⟨g, 8, none⟩ v8).setCell ⟨g, 9, none⟩ v9).setCell ⟨g, 10, none⟩ v10).setCell ⟨g, 11, none⟩ v11) g t #[v0, v1, v2, v3, v4, v5, v6, v7, v8, v9, v10, v11] := by
  simpa using (((((((((((h.set_ 0 v0).set_ 1 v1).set_ 2 v2).set_ 3 v3).set_ 4 v4).set_ 5 v5).set_ 6 v6).set_ 7 v7).set_ 8 v8).set_ 9 v9).set_ 10 v10).set_ 11 v11
theorem below_store12 {B : Nat} {a w : World} (h : Below B a w) {g : Nat} (hg : B ≤ g) (v0 v1 v2 v3 v4 v5 v6 v7 v8 v9 v10 v11 : Value) : Below B a ((((((((((((w.setCell ⟨g, 0, none⟩ v0).setCell ⟨g, 1, none⟩ v1).setCell ⟨g, 2, none⟩ v2).setCell ⟨g, 3, none⟩ v3).setCell ⟨g, 4, none⟩ v4).setCell ⟨g, 5, none⟩ v5).setCell ⟨g, 6, none⟩ v6).setCell ⟨g, 7, none⟩ v7).setCell ⟨g, 8, none⟩ v8).setCell ⟨g, 9, none⟩ v9).setCell ⟨g, 10, none⟩ v10).setCell ⟨g, 11, none⟩ v11) :=
  (((((((((((h.setCell hg _).setCell hg _).setCell hg _).setCell hg _).setCell hg _).setCell hg _).setCell hg _).setCell hg _).setCell hg _).setCell hg _).setCell hg _).setCell hg _
theorem rT_size {c m : Nat} {s : ByteArray} {l l0 : List Nat} {b b0 : Bool} (h : (bysN s, l, b) = rText c m l0 b0) : s.size ≤ m := by
  have := rText_len c m l0 b0
  rw [← h] at this
  rw [← bysN_len]
  exact this
set_option maxHeartbeats 4000000 in
set_option maxRecDepth 100000 in
theorem pkread_any (T : ByteArray) (w : World) (hT : T.size ≤ 1000000) : Calls Tryd.prog 9 #[.string T] w fun e w' => RdRes 1000 T w e w' := by
  go_enter Tryd.func9, Tryd.ntmps9
  go_wp2_with (first | (go_at_call 25; refine (tlvread_any T _).mono ?_; rintro e w2 ⟨rfl, rfl⟩) | fail)
  have S0 : PR w ((((w.alloc (.cells #[.int .i64 0, .string ⟨#[]⟩, .string ⟨#[]⟩, .string ⟨#[]⟩, .int .u64 0, .int .u64 0, .int .u64 0, .int .u64 0, .string ⟨#[]⟩, .string ⟨#[]⟩, .int .i64 0, .int .i64 0] 30)).alloc (.cells #[.string T, .bool false] 71)).alloc (.cells #[.pointer (some ⟨w.heap.size + 1, 0, none⟩)] 48)).alloc (.cells #[.int .i64 0, .string ⟨#[]⟩, .string ⟨#[]⟩, .string ⟨#[]⟩, .int .u64 0, .int .u64 0, .int .u64 0, .int .u64 0, .string ⟨#[]⟩, .string ⟨#[]⟩, .int .i64 0, .int .i64 0] 30)) 71 (w.heap.size + 1) (w.heap.size + 2) (w.heap.size + 3) T false #[.int .i64 0, .string ⟨#[]⟩, .string ⟨#[]⟩, .string ⟨#[]⟩, .int .u64 0, .int .u64 0, .int .u64 0, .int .u64 0, .string ⟨#[]⟩, .string ⟨#[]⟩, .int .i64 0, .int .i64 0] := ⟨((blk2 w _ _ _).alloc _).alloc _, (((blk1 w _ _).alloc _).alloc _).alloc _, .inr ((blk3 w _ _ _ _).alloc _), blk4 w _ _ _ _ _, BW_alloc (BW_alloc (BW_alloc (BW_alloc (BW_refl w) _) _) _) _⟩
  go_wp2_with (go_at_call 26; refine (trdint_any 113 1099511627776 (w.heap.size + 1) T false _ S0.hR (by omega) (by decide)).mono ?_)
  rintro e w1 ⟨q, T1, b1, rfl, hr1, hR1, hz1, hk1⟩
  have P1 := S0.call (by omega) (by omega) hk1 hR1
  have fo1 := (fun i => P1.h3.free i)
  have co1 := (fun i => P1.h3.cell i)
  have pc1 := (P1.h2.resolve_left (by omega)).cell 0
  clear hk1 hR1
  have S1_0 := P1.set (by omega) (by omega) (by omega) 0 (.int .i64 (q : Int))
  have so0 := (fun i => S1_0.h3.free i)
  have sc0 := (fun i => S1_0.h3.cell i)
  have sp0 := (S1_0.h2.resolve_left (by omega)).cell 0
  go_wp2_with (go_at_call 26; refine (trdint_any 104 1099511627776 (w.heap.size + 1) T1 b1 _ S1_0.hR (by omega) (by decide)).mono ?_)
  rintro e w2 ⟨h, T2, b2, rfl, hr2, hR2, hz2, hk2⟩
  have P2 := S1_0.call (by omega) (by omega) hk2 hR2
  have fo2 := (fun i => P2.h3.free i)
  have co2 := (fun i => P2.h3.cell i)
  have pc2 := (P2.h2.resolve_left (by omega)).cell 0
  clear hk2 hR2
  have S2_10 := P2.set (by omega) (by omega) (by omega) 10 (.int .i64 (h : Int))
  have so10 := (fun i => S2_10.h3.free i)
  have sc10 := (fun i => S2_10.h3.cell i)
  have sp10 := (S2_10.h2.resolve_left (by omega)).cell 0
  go_wp2_with (go_at_call 26; refine (trdint_any 116 1099511627776 (w.heap.size + 1) T2 b2 _ S2_10.hR (by omega) (by decide)).mono ?_)
  rintro e w3 ⟨t, T3, b3, rfl, hr3, hR3, hz3, hk3⟩
  have P3 := S2_10.call (by omega) (by omega) hk3 hR3
  have fo3 := (fun i => P3.h3.free i)
  have co3 := (fun i => P3.h3.cell i)
  have pc3 := (P3.h2.resolve_left (by omega)).cell 0
  clear hk3 hR3
  have S3_11 := P3.set (by omega) (by omega) (by omega) 11 (.int .i64 (t : Int))
  have so11 := (fun i => S3_11.h3.free i)
  have sc11 := (fun i => S3_11.h3.cell i)
  have sp11 := (S3_11.h2.resolve_left (by omega)).cell 0
  go_wp2_with (go_at_call 27; refine (pkread1_any 115 (w.heap.size + 1) (w.heap.size + 2) T3 b3 _ S3_11.hR (by omega) (S3_11.h2.resolve_left (by omega))).mono ?_)
  rintro e w4 ⟨s, T4, b4, rfl, hr4, hR4, hz4, hk4⟩
  have P4 := S3_11.call (by omega) (by omega) hk4 hR4
  have fo4 := (fun i => P4.h3.free i)
  have co4 := (fun i => P4.h3.cell i)
  have pc4 := (P4.h2.resolve_left (by omega)).cell 0
  clear hk4 hR4
  go_wp2_with (go_at_call 27; refine (pkread1_any 107 (w.heap.size + 1) (w.heap.size + 2) T4 b4 _ P4.hR (by omega) (P4.h2.resolve_left (by omega))).mono ?_)
  rintro e w5 ⟨k, T5, b5, rfl, hr5, hR5, hz5, hk5⟩
  have P5 := P4.call (by omega) (by omega) hk5 hR5
  have fo5 := (fun i => P5.h3.free i)
  have co5 := (fun i => P5.h3.cell i)
  have pc5 := (P5.h2.resolve_left (by omega)).cell 0
  clear hk5 hR5
  have S5_1 := P5.set (by omega) (by omega) (by omega) 1 (.string s)
  have so1 := (fun i => S5_1.h3.free i)
  have sc1 := (fun i => S5_1.h3.cell i)
  have sp1 := (S5_1.h2.resolve_left (by omega)).cell 0
  have S5_2 := S5_1.set (by omega) (by omega) (by omega) 2 (.string k)
  have so2 := (fun i => S5_2.h3.free i)
  have sc2 := (fun i => S5_2.h3.cell i)
  have sp2 := (S5_2.h2.resolve_left (by omega)).cell 0
  go_wp2_with (go_at_call 27; refine (pkread1_any 100 (w.heap.size + 1) (w.heap.size + 2) T5 b5 _ S5_2.hR (by omega) (S5_2.h2.resolve_left (by omega))).mono ?_)
  rintro e w6 ⟨d, T6, b6, rfl, hr6, hR6, hz6, hk6⟩
  have P6 := S5_2.call (by omega) (by omega) hk6 hR6
  have fo6 := (fun i => P6.h3.free i)
  have co6 := (fun i => P6.h3.cell i)
  have pc6 := (P6.h2.resolve_left (by omega)).cell 0
  clear hk6 hR6
  have S6_3 := P6.set (by omega) (by omega) (by omega) 3 (.string d)
  have so3 := (fun i => S6_3.h3.free i)
  have sc3 := (fun i => S6_3.h3.cell i)
  have sp3 := (S6_3.h2.resolve_left (by omega)).cell 0
  go_wp2_with (go_at_call 27; refine (pkread1_any 97 (w.heap.size + 1) (w.heap.size + 2) T6 b6 _ S6_3.hR (by omega) (S6_3.h2.resolve_left (by omega))).mono ?_)
  rintro e w7 ⟨a, T7, b7, rfl, hr7, hR7, hz7, hk7⟩
  have P7 := S6_3.call (by omega) (by omega) hk7 hR7
  have fo7 := (fun i => P7.h3.free i)
  have co7 := (fun i => P7.h3.cell i)
  have pc7 := (P7.h2.resolve_left (by omega)).cell 0
  clear hk7 hR7
  by_cases ha : a.size = 32
  · obtain ⟨N, hN⟩ : ∃ N, unb a.data.toList = N := ⟨_, rfl⟩
    have HN := Lib.hid hN
    have HW : Hid (W256 N) := Lib.hid (hN ▸ unb_lt a ha)
    clear hN
    go_wp2_with (go_at_call 29; refine (from_yes a ha _).mono ?_)
    rintro e w8 ⟨rfl, hb8⟩
    rw [HN.out]
    have PA := (P7.on hb8).alloc (.cells #[.int .u64 (limb N 0), .int .u64 (limb N 1), .int .u64 (limb N 2), .int .u64 (limb N 3)] 26)
    have foA := (fun i => PA.h3.free i)
    have coA := (fun i => PA.h3.cell i)
    have pcA := (PA.h2.resolve_left (by omega)).cell 0
    have S7_4 := PA.set (by omega) (by omega) (by omega) 4 (.int .u64 (limb N 0))
    have so4 := (fun i => S7_4.h3.free i)
    have sc4 := (fun i => S7_4.h3.cell i)
    have sp4 := (S7_4.h2.resolve_left (by omega)).cell 0
    have S7_5 := S7_4.set (by omega) (by omega) (by omega) 5 (.int .u64 (limb N 1))
    have so5 := (fun i => S7_5.h3.free i)
    have sc5 := (fun i => S7_5.h3.cell i)
    have sp5 := (S7_5.h2.resolve_left (by omega)).cell 0
    have S7_6 := S7_5.set (by omega) (by omega) (by omega) 6 (.int .u64 (limb N 2))
    have so6 := (fun i => S7_6.h3.free i)
    have sc6 := (fun i => S7_6.h3.cell i)
    have sp6 := (S7_6.h2.resolve_left (by omega)).cell 0
    have S7_7 := S7_6.set (by omega) (by omega) (by omega) 7 (.int .u64 (limb N 3))
    have so7 := (fun i => S7_7.h3.free i)
    have sc7 := (fun i => S7_7.h3.cell i)
    have sp7 := (S7_7.h2.resolve_left (by omega)).cell 0
    go_wp2_with (go_at_call 27; refine (pkread1_any 102 (w.heap.size + 1) (w.heap.size + 2) T7 b7 _ S7_7.hR (by omega) (S7_7.h2.resolve_left (by omega))).mono ?_)
    rintro e w8 ⟨f, T8, b8, rfl, hr8, hR8, hz8, hk8⟩
    have P8 := S7_7.call (by omega) (by omega) hk8 hR8
    have fo8 := (fun i => P8.h3.free i)
    have co8 := (fun i => P8.h3.cell i)
    have pc8 := (P8.h2.resolve_left (by omega)).cell 0
    clear hk8 hR8
    go_wp2_with (go_at_call 27; refine (pkread1_any 103 (w.heap.size + 1) (w.heap.size + 2) T8 b8 _ P8.hR (by omega) (P8.h2.resolve_left (by omega))).mono ?_)
    rintro e w9 ⟨g, T9, b9, rfl, hr9, hR9, hz9, hk9⟩
    have P9 := P8.call (by omega) (by omega) hk9 hR9
    have fo9 := (fun i => P9.h3.free i)
    have co9 := (fun i => P9.h3.cell i)
    have pc9 := (P9.h2.resolve_left (by omega)).cell 0
    clear hk9 hR9
    have S9_8 := P9.set (by omega) (by omega) (by omega) 8 (.string f)
    have so8 := (fun i => S9_8.h3.free i)
    have sc8 := (fun i => S9_8.h3.cell i)
    have sp8 := (S9_8.h2.resolve_left (by omega)).cell 0
    have S9_9 := S9_8.set (by omega) (by omega) (by omega) 9 (.string g)
    have so9 := (fun i => S9_9.h3.free i)
    have sc9 := (fun i => S9_9.h3.cell i)
    have sp9 := (S9_9.h2.resolve_left (by omega)).cell 0
    have zs := rT_size hr4
    have zk := rT_size hr5
    have zd := rT_size hr6
    have za := rT_size hr7
    have zf := rT_size hr8
    have zg := rT_size hr9
    have HC := Lib.hid (show Chain 1000 (bysN T) q h t (bysN s) (bysN k) (bysN d) (bysN a) (bysN f) (bysN g) (bysN T9) b9 from ⟨_, _, _, _, _, _, _, _, _, _, _, _, _, _, _, _, hr1, hr2, hr3, hr4, hr5, hr6, hr7, hr8, hr9⟩)
    have zall := And.intro zs (And.intro zk (And.intro zd (And.intro zf zg)))
    have fB := (fun i => S9_9.h0.free i)
    have cB := (fun i => S9_9.h0.cell i)
    by_cases hE : rEnd (bysN T9) b9 = true
    · have HE := Lib.hid hE
      clear hE
      go_wp2_with (go_at_call 30; refine (trdend_any (w.heap.size + 1) T9 b9 _ S9_9.hR).mono ?_; rintro e w9 ⟨rfl, rfl⟩; rw [if_pos HE.out])
      have hcc := (fun i => (S9_9.h0.store12 (.int .i64 0) (.string ⟨#[]⟩) (.string ⟨#[]⟩) (.string ⟨#[]⟩) (.int .u64 0) (.int .u64 0) (.int .u64 0) (.int .u64 0) (.string ⟨#[]⟩) (.string ⟨#[]⟩) (.int .i64 0) (.int .i64 0)).cell i)
      refine bodyPost_ret (v := .tuple #[.agg #[.int .i64 0, .string ⟨#[]⟩, .string ⟨#[]⟩, .string ⟨#[]⟩, .int .u64 0, .int .u64 0, .int .u64 0, .int .u64 0, .string ⟨#[]⟩, .string ⟨#[]⟩, .int .i64 0, .int .i64 0], .int .i64 10]) (by simp [results, Tryd.results9, go_sem, hcc]) rfl ⟨q, h, t, s, k, d, a, f, g, _, _, HC.out, below_store12 S9_9.hb (Nat.le_refl _) _ _ _ _ _ _ _ _ _ _ _ _, .inr ⟨.inr (.inl HE.out), rfl⟩⟩
    · rw [Bool.not_eq_true] at hE
      have HE := Lib.hid hE
      clear hE
      obtain ⟨ok, ho⟩ : ∃ ok, okP q h t (bysN s) (bysN k) (bysN d) (bysN f) (bysN g) N = ok := ⟨_, rfl⟩
      have HO := Lib.hid ho
      clear ho
      cases ok
      · go_wp2_with (first | (go_at_call 30; refine (trdend_any (w.heap.size + 1) T9 b9 _ S9_9.hR).mono ?_; rintro e w9 ⟨rfl, rfl⟩; rw [if_neg (by rw [HE.out]; decide)]) | (go_at_call 13; refine (check13_any (q : Int) (h : Int) (t : Int) s k d f g N _ (by omega) (by omega) (by omega) (by omega) (by omega) HW.out).mono ?_; rintro e w9 ⟨rfl, hb9⟩; rw [HO.out]; have PF := S9_9.on hb9; have fB9 := (fun i => PF.h0.free i); have cB9 := (fun i => PF.h0.cell i); have f39 := (fun i => PF.h3.free i); have c39 := (fun i => PF.h3.cell i)))
        have hcc := (fun i => (PF.h0.store12 (.int .i64 0) (.string ⟨#[]⟩) (.string ⟨#[]⟩) (.string ⟨#[]⟩) (.int .u64 0) (.int .u64 0) (.int .u64 0) (.int .u64 0) (.string ⟨#[]⟩) (.string ⟨#[]⟩) (.int .i64 0) (.int .i64 0)).cell i)
        refine bodyPost_ret (v := .tuple #[.agg #[.int .i64 0, .string ⟨#[]⟩, .string ⟨#[]⟩, .string ⟨#[]⟩, .int .u64 0, .int .u64 0, .int .u64 0, .int .u64 0, .string ⟨#[]⟩, .string ⟨#[]⟩, .int .i64 0, .int .i64 0], .int .i64 10]) (by simp [results, Tryd.results9, go_sem, hcc]) rfl ⟨q, h, t, s, k, d, a, f, g, _, _, HC.out, below_store12 PF.hb (Nat.le_refl _) _ _ _ _ _ _ _ _ _ _ _ _, .inr ⟨.inr (.inr (by rw [HN.out]; exact HO.out)), rfl⟩⟩
      · go_wp2_with (first | (go_at_call 30; refine (trdend_any (w.heap.size + 1) T9 b9 _ S9_9.hR).mono ?_; rintro e w9 ⟨rfl, rfl⟩; rw [if_neg (by rw [HE.out]; decide)]) | (go_at_call 13; refine (check13_any (q : Int) (h : Int) (t : Int) s k d f g N _ (by omega) (by omega) (by omega) (by omega) (by omega) HW.out).mono ?_; rintro e w9 ⟨rfl, hb9⟩; rw [HO.out]; have PF := S9_9.on hb9; have fB9 := (fun i => PF.h0.free i); have cB9 := (fun i => PF.h0.cell i); have f39 := (fun i => PF.h3.free i); have c39 := (fun i => PF.h3.cell i)))
        have hcc := (fun i => (PF.h0.store12 (.int .i64 (q : Int)) (.string s) (.string k) (.string d) (.int .u64 (limb N 0)) (.int .u64 (limb N 1)) (.int .u64 (limb N 2)) (.int .u64 (limb N 3)) (.string f) (.string g) (.int .i64 (h : Int)) (.int .i64 (t : Int))).cell i)
        refine bodyPost_ret (v := .tuple #[.agg #[.int .i64 (q : Int), .string s, .string k, .string d, .int .u64 (limb N 0), .int .u64 (limb N 1), .int .u64 (limb N 2), .int .u64 (limb N 3), .string f, .string g, .int .i64 (h : Int), .int .i64 (t : Int)], .int .i64 0]) (by simp [results, Tryd.results9, go_sem, hcc]) rfl ⟨q, h, t, s, k, d, a, f, g, _, _, HC.out, below_store12 PF.hb (Nat.le_refl _) _ _ _ _ _ _ _ _ _ _ _ _, .inl ⟨ha, HE.out, by rw [HN.out]; exact HO.out, by rw [HN.out]⟩⟩
  · go_wp2_with (go_at_call 29; refine (from_no a ha _).mono ?_)
    rintro e w8 ⟨rfl, hb8⟩
    have PA := (P7.on hb8).alloc (.cells #[.int .u64 0, .int .u64 0, .int .u64 0, .int .u64 0] 26)
    have foA := (fun i => PA.h3.free i)
    have coA := (fun i => PA.h3.cell i)
    have pcA := (PA.h2.resolve_left (by omega)).cell 0
    have S7_4 := PA.set (by omega) (by omega) (by omega) 4 (.int .u64 0)
    have so4 := (fun i => S7_4.h3.free i)
    have sc4 := (fun i => S7_4.h3.cell i)
    have sp4 := (S7_4.h2.resolve_left (by omega)).cell 0
    have S7_5 := S7_4.set (by omega) (by omega) (by omega) 5 (.int .u64 0)
    have so5 := (fun i => S7_5.h3.free i)
    have sc5 := (fun i => S7_5.h3.cell i)
    have sp5 := (S7_5.h2.resolve_left (by omega)).cell 0
    have S7_6 := S7_5.set (by omega) (by omega) (by omega) 6 (.int .u64 0)
    have so6 := (fun i => S7_6.h3.free i)
    have sc6 := (fun i => S7_6.h3.cell i)
    have sp6 := (S7_6.h2.resolve_left (by omega)).cell 0
    have S7_7 := S7_6.set (by omega) (by omega) (by omega) 7 (.int .u64 0)
    have so7 := (fun i => S7_7.h3.free i)
    have sc7 := (fun i => S7_7.h3.cell i)
    have sp7 := (S7_7.h2.resolve_left (by omega)).cell 0
    go_wp2_with (go_at_call 27; refine (pkread1_any 102 (w.heap.size + 1) (w.heap.size + 2) T7 b7 _ S7_7.hR (by omega) (S7_7.h2.resolve_left (by omega))).mono ?_)
    rintro e w8 ⟨f, T8, b8, rfl, hr8, hR8, hz8, hk8⟩
    have P8 := S7_7.call (by omega) (by omega) hk8 hR8
    have fo8 := (fun i => P8.h3.free i)
    have co8 := (fun i => P8.h3.cell i)
    have pc8 := (P8.h2.resolve_left (by omega)).cell 0
    clear hk8 hR8
    go_wp2_with (go_at_call 27; refine (pkread1_any 103 (w.heap.size + 1) (w.heap.size + 2) T8 b8 _ P8.hR (by omega) (P8.h2.resolve_left (by omega))).mono ?_)
    rintro e w9 ⟨g, T9, b9, rfl, hr9, hR9, hz9, hk9⟩
    have P9 := P8.call (by omega) (by omega) hk9 hR9
    have fo9 := (fun i => P9.h3.free i)
    have co9 := (fun i => P9.h3.cell i)
    have pc9 := (P9.h2.resolve_left (by omega)).cell 0
    clear hk9 hR9
    have S9_8 := P9.set (by omega) (by omega) (by omega) 8 (.string f)
    have so8 := (fun i => S9_8.h3.free i)
    have sc8 := (fun i => S9_8.h3.cell i)
    have sp8 := (S9_8.h2.resolve_left (by omega)).cell 0
    have S9_9 := S9_8.set (by omega) (by omega) (by omega) 9 (.string g)
    have so9 := (fun i => S9_9.h3.free i)
    have sc9 := (fun i => S9_9.h3.cell i)
    have sp9 := (S9_9.h2.resolve_left (by omega)).cell 0
    have zs := rT_size hr4
    have zk := rT_size hr5
    have zd := rT_size hr6
    have za := rT_size hr7
    have zf := rT_size hr8
    have zg := rT_size hr9
    have HC := Lib.hid (show Chain 1000 (bysN T) q h t (bysN s) (bysN k) (bysN d) (bysN a) (bysN f) (bysN g) (bysN T9) b9 from ⟨_, _, _, _, _, _, _, _, _, _, _, _, _, _, _, _, hr1, hr2, hr3, hr4, hr5, hr6, hr7, hr8, hr9⟩)
    have zall := And.intro zs (And.intro zk (And.intro zd (And.intro zf zg)))
    have fB := (fun i => S9_9.h0.free i)
    have cB := (fun i => S9_9.h0.cell i)
    go_wp2_with fail
    have hcc := (fun i => (S9_9.h0.store12 (.int .i64 0) (.string ⟨#[]⟩) (.string ⟨#[]⟩) (.string ⟨#[]⟩) (.int .u64 0) (.int .u64 0) (.int .u64 0) (.int .u64 0) (.string ⟨#[]⟩) (.string ⟨#[]⟩) (.int .i64 0) (.int .i64 0)).cell i)
    refine bodyPost_ret (v := .tuple #[.agg #[.int .i64 0, .string ⟨#[]⟩, .string ⟨#[]⟩, .string ⟨#[]⟩, .int .u64 0, .int .u64 0, .int .u64 0, .int .u64 0, .string ⟨#[]⟩, .string ⟨#[]⟩, .int .i64 0, .int .i64 0], .int .i64 10]) (by simp [results, Tryd.results9, go_sem, hcc]) rfl ⟨q, h, t, s, k, d, a, f, g, _, _, HC.out, below_store12 S9_9.hb (Nat.le_refl _) _ _ _ _ _ _ _ _ _ _ _ _, .inr ⟨.inl ha, rfl⟩⟩
end Go.Proofs.YtbimnfmjgmfijaaDoor
namespace Go.Proofs.YtbimnfmjgmfijaaDoor
open Go.RowKit
attribute [local go_sem ↓] Go.wp_at_zero Go.wp_at_succ
set_option maxHeartbeats 4000000 in
set_option maxRecDepth 100000 in
theorem r13read_any (T : ByteArray) (w : World) (hT : T.size ≤ 1000000) : Calls Tryd.prog 10 #[.string T] w fun e w' => RdRes 32 T w e w' := by
  go_enter Tryd.func10, Tryd.ntmps10
  go_wp2_with fail
  have S0 : PR w (((w.alloc (.cells #[.int .i64 0, .string ⟨#[]⟩, .string ⟨#[]⟩, .string ⟨#[]⟩, .int .u64 0, .int .u64 0, .int .u64 0, .int .u64 0, .string ⟨#[]⟩, .string ⟨#[]⟩, .int .i64 0, .int .i64 0] 30)).alloc (.cells #[.string T, .bool false] 58)).alloc (.cells #[.int .i64 0, .string ⟨#[]⟩, .string ⟨#[]⟩, .string ⟨#[]⟩, .int .u64 0, .int .u64 0, .int .u64 0, .int .u64 0, .string ⟨#[]⟩, .string ⟨#[]⟩, .int .i64 0, .int .i64 0] 30)) 58 (w.heap.size + 1) (w.heap.size + 1) (w.heap.size + 2) T false #[.int .i64 0, .string ⟨#[]⟩, .string ⟨#[]⟩, .string ⟨#[]⟩, .int .u64 0, .int .u64 0, .int .u64 0, .int .u64 0, .string ⟨#[]⟩, .string ⟨#[]⟩, .int .i64 0, .int .i64 0] := ⟨(blk2 w _ _ _).alloc _, ((blk1 w _ _).alloc _).alloc _, .inl rfl, blk3 w _ _ _ _, BW_alloc (BW_alloc (BW_alloc (BW_refl w) _) _) _⟩
  go_wp2_with (go_at_call 31; refine (rrdint_any 113 1099511627776 (w.heap.size + 1) T false _ S0.hR (by omega) (by decide)).mono ?_)
  rintro e w1 ⟨q, T1, b1, rfl, hr1, hR1, hz1, hk1⟩
  have P1 := S0.call (by omega) (by omega) hk1 hR1
  have fo1 := (fun i => P1.h3.free i)
  have co1 := (fun i => P1.h3.cell i)
  clear hk1 hR1
  have S1_0 := P1.set (by omega) (by omega) (by omega) 0 (.int .i64 (q : Int))
  have so0 := (fun i => S1_0.h3.free i)
  have sc0 := (fun i => S1_0.h3.cell i)
  go_wp2_with (go_at_call 31; refine (rrdint_any 104 1099511627776 (w.heap.size + 1) T1 b1 _ S1_0.hR (by omega) (by decide)).mono ?_)
  rintro e w2 ⟨h, T2, b2, rfl, hr2, hR2, hz2, hk2⟩
  have P2 := S1_0.call (by omega) (by omega) hk2 hR2
  have fo2 := (fun i => P2.h3.free i)
  have co2 := (fun i => P2.h3.cell i)
  clear hk2 hR2
  have S2_10 := P2.set (by omega) (by omega) (by omega) 10 (.int .i64 (h : Int))
  have so10 := (fun i => S2_10.h3.free i)
  have sc10 := (fun i => S2_10.h3.cell i)
  go_wp2_with (go_at_call 31; refine (rrdint_any 116 1099511627776 (w.heap.size + 1) T2 b2 _ S2_10.hR (by omega) (by decide)).mono ?_)
  rintro e w3 ⟨t, T3, b3, rfl, hr3, hR3, hz3, hk3⟩
  have P3 := S2_10.call (by omega) (by omega) hk3 hR3
  have fo3 := (fun i => P3.h3.free i)
  have co3 := (fun i => P3.h3.cell i)
  clear hk3 hR3
  have S3_11 := P3.set (by omega) (by omega) (by omega) 11 (.int .i64 (t : Int))
  have so11 := (fun i => S3_11.h3.free i)
  have sc11 := (fun i => S3_11.h3.cell i)
  go_wp2_with (go_at_call 32; refine (rrdtext_any 115 1000 (w.heap.size + 1) T3 b3 _ S3_11.hR (by omega)).mono ?_)
  rintro e w4 ⟨s, T4, b4, rfl, hr4, hR4, hz4, hk4⟩
  have P4 := S3_11.call (by omega) (by omega) hk4 hR4
  have fo4 := (fun i => P4.h3.free i)
  have co4 := (fun i => P4.h3.cell i)
  clear hk4 hR4
  have S4_1 := P4.set (by omega) (by omega) (by omega) 1 (.string s)
  have so1 := (fun i => S4_1.h3.free i)
  have sc1 := (fun i => S4_1.h3.cell i)
  go_wp2_with (go_at_call 32; refine (rrdtext_any 107 1000 (w.heap.size + 1) T4 b4 _ S4_1.hR (by omega)).mono ?_)
  rintro e w5 ⟨k, T5, b5, rfl, hr5, hR5, hz5, hk5⟩
  have P5 := S4_1.call (by omega) (by omega) hk5 hR5
  have fo5 := (fun i => P5.h3.free i)
  have co5 := (fun i => P5.h3.cell i)
  clear hk5 hR5
  have S5_2 := P5.set (by omega) (by omega) (by omega) 2 (.string k)
  have so2 := (fun i => S5_2.h3.free i)
  have sc2 := (fun i => S5_2.h3.cell i)
  go_wp2_with (go_at_call 32; refine (rrdtext_any 100 1000 (w.heap.size + 1) T5 b5 _ S5_2.hR (by omega)).mono ?_)
  rintro e w6 ⟨d, T6, b6, rfl, hr6, hR6, hz6, hk6⟩
  have P6 := S5_2.call (by omega) (by omega) hk6 hR6
  have fo6 := (fun i => P6.h3.free i)
  have co6 := (fun i => P6.h3.cell i)
  clear hk6 hR6
  have S6_3 := P6.set (by omega) (by omega) (by omega) 3 (.string d)
  have so3 := (fun i => S6_3.h3.free i)
  have sc3 := (fun i => S6_3.h3.cell i)
  go_wp2_with (go_at_call 32; refine (rrdtext_any 97 32 (w.heap.size + 1) T6 b6 _ S6_3.hR (by omega)).mono ?_)
  rintro e w7 ⟨a, T7, b7, rfl, hr7, hR7, hz7, hk7⟩
  have P7 := S6_3.call (by omega) (by omega) hk7 hR7
  have fo7 := (fun i => P7.h3.free i)
  have co7 := (fun i => P7.h3.cell i)
  clear hk7 hR7
  go_wp2_with (go_at_call 32; refine (rrdtext_any 102 1000 (w.heap.size + 1) T7 b7 _ P7.hR (by omega)).mono ?_)
  rintro e w8 ⟨f, T8, b8, rfl, hr8, hR8, hz8, hk8⟩
  have P8 := P7.call (by omega) (by omega) hk8 hR8
  have fo8 := (fun i => P8.h3.free i)
  have co8 := (fun i => P8.h3.cell i)
  clear hk8 hR8
  have S8_8 := P8.set (by omega) (by omega) (by omega) 8 (.string f)
  have so8 := (fun i => S8_8.h3.free i)
  have sc8 := (fun i => S8_8.h3.cell i)
  go_wp2_with (go_at_call 32; refine (rrdtext_any 103 1000 (w.heap.size + 1) T8 b8 _ S8_8.hR (by omega)).mono ?_)
  rintro e w9 ⟨g, T9, b9, rfl, hr9, hR9, hz9, hk9⟩
  have P9 := S8_8.call (by omega) (by omega) hk9 hR9
  have fo9 := (fun i => P9.h3.free i)
  have co9 := (fun i => P9.h3.cell i)
  clear hk9 hR9
  have S9_9 := P9.set (by omega) (by omega) (by omega) 9 (.string g)
  have so9 := (fun i => S9_9.h3.free i)
  have sc9 := (fun i => S9_9.h3.cell i)
  by_cases ha : a.size = 32
  · obtain ⟨N, hN⟩ : ∃ N, unb a.data.toList = N := ⟨_, rfl⟩
    have HN := Lib.hid hN
    have HW : Hid (W256 N) := Lib.hid (hN ▸ unb_lt a ha)
    clear hN
    have zs := rT_size hr4
    have zk := rT_size hr5
    have zd := rT_size hr6
    have za := rT_size hr7
    have zf := rT_size hr8
    have zg := rT_size hr9
    have HC := Lib.hid (show Chain 32 (bysN T) q h t (bysN s) (bysN k) (bysN d) (bysN a) (bysN f) (bysN g) (bysN T9) b9 from ⟨_, _, _, _, _, _, _, _, _, _, _, _, _, _, _, _, hr1, hr2, hr3, hr4, hr5, hr6, hr7, hr8, hr9⟩)
    go_wp2_with (go_at_call 33; refine (rfrom_yes a ha _).mono ?_)
    rintro e w8 ⟨rfl, hb8⟩
    rw [HN.out]
    have PA := (S9_9.on hb8).alloc (.cells #[.int .u64 (limb N 0), .int .u64 (limb N 1), .int .u64 (limb N 2), .int .u64 (limb N 3)] 26)
    have foA := (fun i => PA.h3.free i)
    have coA := (fun i => PA.h3.cell i)
    have S9_4 := PA.set (by omega) (by omega) (by omega) 4 (.int .u64 (limb N 0))
    have so4 := (fun i => S9_4.h3.free i)
    have sc4 := (fun i => S9_4.h3.cell i)
    have S9_5 := S9_4.set (by omega) (by omega) (by omega) 5 (.int .u64 (limb N 1))
    have so5 := (fun i => S9_5.h3.free i)
    have sc5 := (fun i => S9_5.h3.cell i)
    have S9_6 := S9_5.set (by omega) (by omega) (by omega) 6 (.int .u64 (limb N 2))
    have so6 := (fun i => S9_6.h3.free i)
    have sc6 := (fun i => S9_6.h3.cell i)
    have S9_7 := S9_6.set (by omega) (by omega) (by omega) 7 (.int .u64 (limb N 3))
    have so7 := (fun i => S9_7.h3.free i)
    have sc7 := (fun i => S9_7.h3.cell i)
    have fB := (fun i => S9_7.h0.free i)
    have cB := (fun i => S9_7.h0.cell i)
    by_cases hE : rEnd (bysN T9) b9 = true
    · have HE := Lib.hid hE
      clear hE
      go_wp2_with (go_at_call 34; refine (rrdend_any (w.heap.size + 1) T9 b9 _ S9_7.hR).mono ?_; rintro e w9 ⟨rfl, rfl⟩; rw [if_pos HE.out])
      have hcc := (fun i => (S9_7.h0.store12 (.int .i64 0) (.string ⟨#[]⟩) (.string ⟨#[]⟩) (.string ⟨#[]⟩) (.int .u64 0) (.int .u64 0) (.int .u64 0) (.int .u64 0) (.string ⟨#[]⟩) (.string ⟨#[]⟩) (.int .i64 0) (.int .i64 0)).cell i)
      refine bodyPost_ret (v := .tuple #[.agg #[.int .i64 0, .string ⟨#[]⟩, .string ⟨#[]⟩, .string ⟨#[]⟩, .int .u64 0, .int .u64 0, .int .u64 0, .int .u64 0, .string ⟨#[]⟩, .string ⟨#[]⟩, .int .i64 0, .int .i64 0], .int .i64 10]) (by simp [results, Tryd.results10, go_sem, hcc]) rfl ⟨q, h, t, s, k, d, a, f, g, _, _, HC.out, below_store12 S9_7.hb (Nat.le_refl _) _ _ _ _ _ _ _ _ _ _ _ _, .inr ⟨.inr (.inl HE.out), rfl⟩⟩
    · rw [Bool.not_eq_true] at hE
      have HE := Lib.hid hE
      clear hE
      obtain ⟨ok, ho⟩ : ∃ ok, okP q h t (bysN s) (bysN k) (bysN d) (bysN f) (bysN g) N = ok := ⟨_, rfl⟩
      have HO := Lib.hid ho
      clear ho
      cases ok
      · go_wp2_with (first | (go_at_call 34; refine (rrdend_any (w.heap.size + 1) T9 b9 _ S9_7.hR).mono ?_; rintro e w9 ⟨rfl, rfl⟩; rw [if_neg (by rw [HE.out]; decide)]) | (go_at_call 16; refine (r13check_any (q : Int) (h : Int) (t : Int) s k d f g N _ (by omega) (by omega) (by omega) (by omega) (by omega) HW.out).mono ?_; rintro e w9 ⟨rfl, hb9⟩; rw [HO.out]; have PF := S9_7.on hb9; have fB9 := (fun i => PF.h0.free i); have cB9 := (fun i => PF.h0.cell i); have f39 := (fun i => PF.h3.free i); have c39 := (fun i => PF.h3.cell i)))
        have hcc := (fun i => (PF.h0.store12 (.int .i64 0) (.string ⟨#[]⟩) (.string ⟨#[]⟩) (.string ⟨#[]⟩) (.int .u64 0) (.int .u64 0) (.int .u64 0) (.int .u64 0) (.string ⟨#[]⟩) (.string ⟨#[]⟩) (.int .i64 0) (.int .i64 0)).cell i)
        refine bodyPost_ret (v := .tuple #[.agg #[.int .i64 0, .string ⟨#[]⟩, .string ⟨#[]⟩, .string ⟨#[]⟩, .int .u64 0, .int .u64 0, .int .u64 0, .int .u64 0, .string ⟨#[]⟩, .string ⟨#[]⟩, .int .i64 0, .int .i64 0], .int .i64 10]) (by simp [results, Tryd.results10, go_sem, hcc]) rfl ⟨q, h, t, s, k, d, a, f, g, _, _, HC.out, below_store12 PF.hb (Nat.le_refl _) _ _ _ _ _ _ _ _ _ _ _ _, .inr ⟨.inr (.inr (by rw [HN.out]; exact HO.out)), rfl⟩⟩
      · go_wp2_with (first | (go_at_call 34; refine (rrdend_any (w.heap.size + 1) T9 b9 _ S9_7.hR).mono ?_; rintro e w9 ⟨rfl, rfl⟩; rw [if_neg (by rw [HE.out]; decide)]) | (go_at_call 16; refine (r13check_any (q : Int) (h : Int) (t : Int) s k d f g N _ (by omega) (by omega) (by omega) (by omega) (by omega) HW.out).mono ?_; rintro e w9 ⟨rfl, hb9⟩; rw [HO.out]; have PF := S9_7.on hb9; have fB9 := (fun i => PF.h0.free i); have cB9 := (fun i => PF.h0.cell i); have f39 := (fun i => PF.h3.free i); have c39 := (fun i => PF.h3.cell i)))
        have hcc := (fun i => (PF.h0.store12 (.int .i64 (q : Int)) (.string s) (.string k) (.string d) (.int .u64 (limb N 0)) (.int .u64 (limb N 1)) (.int .u64 (limb N 2)) (.int .u64 (limb N 3)) (.string f) (.string g) (.int .i64 (h : Int)) (.int .i64 (t : Int))).cell i)
        refine bodyPost_ret (v := .tuple #[.agg #[.int .i64 (q : Int), .string s, .string k, .string d, .int .u64 (limb N 0), .int .u64 (limb N 1), .int .u64 (limb N 2), .int .u64 (limb N 3), .string f, .string g, .int .i64 (h : Int), .int .i64 (t : Int)], .int .i64 0]) (by simp [results, Tryd.results10, go_sem, hcc]) rfl ⟨q, h, t, s, k, d, a, f, g, _, _, HC.out, below_store12 PF.hb (Nat.le_refl _) _ _ _ _ _ _ _ _ _ _ _ _, .inl ⟨ha, HE.out, by rw [HN.out]; exact HO.out, by rw [HN.out]⟩⟩
  · have zs := rT_size hr4
    have zk := rT_size hr5
    have zd := rT_size hr6
    have za := rT_size hr7
    have zf := rT_size hr8
    have zg := rT_size hr9
    have HC := Lib.hid (show Chain 32 (bysN T) q h t (bysN s) (bysN k) (bysN d) (bysN a) (bysN f) (bysN g) (bysN T9) b9 from ⟨_, _, _, _, _, _, _, _, _, _, _, _, _, _, _, _, hr1, hr2, hr3, hr4, hr5, hr6, hr7, hr8, hr9⟩)
    go_wp2_with (go_at_call 33; refine (rfrom_no a ha _).mono ?_)
    rintro e w8 ⟨rfl, hb8⟩
    have PA := (S9_9.on hb8).alloc (.cells #[.int .u64 0, .int .u64 0, .int .u64 0, .int .u64 0] 26)
    have foA := (fun i => PA.h3.free i)
    have coA := (fun i => PA.h3.cell i)
    have S9_4 := PA.set (by omega) (by omega) (by omega) 4 (.int .u64 0)
    have so4 := (fun i => S9_4.h3.free i)
    have sc4 := (fun i => S9_4.h3.cell i)
    have S9_5 := S9_4.set (by omega) (by omega) (by omega) 5 (.int .u64 0)
    have so5 := (fun i => S9_5.h3.free i)
    have sc5 := (fun i => S9_5.h3.cell i)
    have S9_6 := S9_5.set (by omega) (by omega) (by omega) 6 (.int .u64 0)
    have so6 := (fun i => S9_6.h3.free i)
    have sc6 := (fun i => S9_6.h3.cell i)
    have S9_7 := S9_6.set (by omega) (by omega) (by omega) 7 (.int .u64 0)
    have so7 := (fun i => S9_7.h3.free i)
    have sc7 := (fun i => S9_7.h3.cell i)
    have fB := (fun i => S9_7.h0.free i)
    have cB := (fun i => S9_7.h0.cell i)
    by_cases hE : rEnd (bysN T9) b9 = true
    · have HE := Lib.hid hE
      clear hE
      go_wp2_with (go_at_call 34; refine (rrdend_any (w.heap.size + 1) T9 b9 _ S9_7.hR).mono ?_; rintro e w9 ⟨rfl, rfl⟩; rw [if_pos HE.out])
      have hcc := (fun i => (S9_7.h0.store12 (.int .i64 0) (.string ⟨#[]⟩) (.string ⟨#[]⟩) (.string ⟨#[]⟩) (.int .u64 0) (.int .u64 0) (.int .u64 0) (.int .u64 0) (.string ⟨#[]⟩) (.string ⟨#[]⟩) (.int .i64 0) (.int .i64 0)).cell i)
      refine bodyPost_ret (v := .tuple #[.agg #[.int .i64 0, .string ⟨#[]⟩, .string ⟨#[]⟩, .string ⟨#[]⟩, .int .u64 0, .int .u64 0, .int .u64 0, .int .u64 0, .string ⟨#[]⟩, .string ⟨#[]⟩, .int .i64 0, .int .i64 0], .int .i64 10]) (by simp [results, Tryd.results10, go_sem, hcc]) rfl ⟨q, h, t, s, k, d, a, f, g, _, _, HC.out, below_store12 S9_7.hb (Nat.le_refl _) _ _ _ _ _ _ _ _ _ _ _ _, .inr ⟨.inl ha, rfl⟩⟩
    · rw [Bool.not_eq_true] at hE
      have HE := Lib.hid hE
      clear hE
      go_wp2_with (go_at_call 34; refine (rrdend_any (w.heap.size + 1) T9 b9 _ S9_7.hR).mono ?_; rintro e w9 ⟨rfl, rfl⟩; rw [if_neg (by rw [HE.out]; decide)])
      have hcc := (fun i => (S9_7.h0.store12 (.int .i64 0) (.string ⟨#[]⟩) (.string ⟨#[]⟩) (.string ⟨#[]⟩) (.int .u64 0) (.int .u64 0) (.int .u64 0) (.int .u64 0) (.string ⟨#[]⟩) (.string ⟨#[]⟩) (.int .i64 0) (.int .i64 0)).cell i)
      refine bodyPost_ret (v := .tuple #[.agg #[.int .i64 0, .string ⟨#[]⟩, .string ⟨#[]⟩, .string ⟨#[]⟩, .int .u64 0, .int .u64 0, .int .u64 0, .int .u64 0, .string ⟨#[]⟩, .string ⟨#[]⟩, .int .i64 0, .int .i64 0], .int .i64 10]) (by simp [results, Tryd.results10, go_sem, hcc]) rfl ⟨q, h, t, s, k, d, a, f, g, _, _, HC.out, below_store12 S9_7.hb (Nat.le_refl _) _ _ _ _ _ _ _ _ _ _ _ _, .inr ⟨.inl ha, rfl⟩⟩
end Go.Proofs.YtbimnfmjgmfijaaDoor
namespace Go.Proofs.YtbimnfmjgmfijaaDoor
open Go.RowKit
attribute [local go_sem ↓] Go.wp_at_zero Go.wp_at_succ
theorem rText_true (c m : Nat) (l : List Nat) : rText c m l true = ([], l, true) := rText_fail (.inl rfl)
theorem rText_32 (c : Nat) (l : List Nat) (b : Bool) : rText c 32 l b = rText c 1000 l b ∨ ((rText c 1000 l b).1.length ≠ 32 ∧ (rText c 32 l b).2.2 = true) := by
  by_cases h : b = true ∨ l.length < 4 ∨ l.getD 0 0 ≠ c
  · exact .inl (by rw [rText_fail h, rText_fail h])
  · by_cases h1 : 1000 < bodyN l ∨ l.length - 4 < bodyN l
    · have h2 : 32 < bodyN l ∨ l.length - 4 < bodyN l := by omega
      exact .inl (by rw [rText_long h h1, rText_long h h2])
    · by_cases h2 : 32 < bodyN l ∨ l.length - 4 < bodyN l
      · refine .inr ⟨?_, by rw [rText_long h h2]⟩
        rw [rText_ok h h1]
        show ((l.drop 4).take (bodyN l)).length ≠ 32
        rw [List.length_take, List.length_drop]
        omega
      · exact .inl (by rw [rText_ok h h1, rText_ok h h2])
theorem tri {α β γ : Type} {a a' : α} {b b' : β} {c c' : γ} (h : (a, b, c) = (a', b', c')) : a = a' ∧ b = b' ∧ c = c' := by simpa using h
abbrev pkV (q h t a0 a1 a2 a3 : Int) (s k d f g : ByteArray) : Value := .agg #[.int .i64 q, .string s, .string k, .string d, .int .u64 a0, .int .u64 a1, .int .u64 a2, .int .u64 a3, .string f, .string g, .int .i64 h, .int .i64 t]
theorem rd_form {m : Nat} {T : ByteArray} {w w' : World} {e : Ending} (h : RdRes m T w e w') : ∃ (q h t a0 a1 a2 a3 code : Int) (s k d f g : ByteArray), e = .returned (.tuple #[pkV q h t a0 a1 a2 a3 s k d f g, .int .i64 code]) := by
  obtain ⟨q, h, t, s, k, d, a, f, g, le, be, _, _, r⟩ := h
  rcases r with ⟨_, _, _, r⟩ | ⟨_, r⟩
  · exact ⟨_, _, _, _, _, _, _, _, _, _, _, _, _, r⟩
  · exact ⟨_, _, _, _, _, _, _, _, _, _, _, _, _, r⟩
theorem rd_same {T : ByteArray} {w1 w2 v1 v2 : World} {e1 e2 : Ending} (h1 : RdRes 1000 T w1 e1 v1) (h2 : RdRes 32 T w2 e2 v2) : e2 = e1 := by
  obtain ⟨q, h, t, s, k, d, a, f, g, le, be, ⟨l1, b1, l2, b2, l3, b3, l4, b4, l5, b5, l6, b6, l7, b7, l8, b8, c1, c2, c3, c4, c5, c6, c7, c8, c9⟩, _, r1⟩ := h1
  obtain ⟨q', h', t', s', k', d', a', f', g', le', be', ⟨m1, p1, m2, p2, m3, p3, m4, p4, m5, p5, m6, p6, m7, p7, m8, p8, x1, x2, x3, x4, x5, x6, x7, x8, x9⟩, _, r2⟩ := h2
  obtain ⟨rfl, rfl, rfl⟩ := tri (x1.trans c1.symm)
  obtain ⟨rfl, rfl, rfl⟩ := tri (x2.trans c2.symm)
  obtain ⟨rfl, rfl, rfl⟩ := tri (x3.trans c3.symm)
  obtain ⟨y4, rfl, rfl⟩ := tri (x4.trans c4.symm)
  obtain rfl := bysN_inj y4
  obtain ⟨y5, rfl, rfl⟩ := tri (x5.trans c5.symm)
  obtain rfl := bysN_inj y5
  obtain ⟨y6, rfl, rfl⟩ := tri (x6.trans c6.symm)
  obtain rfl := bysN_inj y6
  rcases rText_32 97 m6 p6 with he | ⟨hl, hb⟩
  · obtain ⟨y7, rfl, rfl⟩ := tri (x7.trans (he.trans c7.symm))
    obtain rfl := bysN_inj y7
    obtain ⟨y8, rfl, rfl⟩ := tri (x8.trans c8.symm)
    obtain rfl := bysN_inj y8
    obtain ⟨y9, rfl, rfl⟩ := tri (x9.trans c9.symm)
    obtain rfl := bysN_inj y9
    rcases r1 with ⟨z1, z2, z3, rfl⟩ | ⟨z, rfl⟩
    · rcases r2 with ⟨_, _, _, rfl⟩ | ⟨u, rfl⟩
      · rfl
      · rcases u with u | u | u
        · exact absurd z1 u
        · rw [z2] at u; cases u
        · rw [z3] at u; cases u
    · rcases r2 with ⟨z1, z2, z3, rfl⟩ | ⟨_, rfl⟩
      · rcases z with u | u | u
        · exact absurd z1 u
        · rw [z2] at u; cases u
        · rw [z3] at u; cases u
      · rfl
  · rw [← c7] at hl
    rw [← x7] at hb
    have ha : a.size ≠ 32 := by rw [← bysN_len]; exact hl
    have hp7 : p7 = true := hb
    subst hp7
    rw [rText_true] at x8
    obtain ⟨_, rfl, rfl⟩ := tri x8
    rw [rText_true] at x9
    obtain ⟨_, rfl, rfl⟩ := tri x9
    rcases r1 with ⟨z1, _⟩ | ⟨_, rfl⟩
    · exact absurd z1 ha
    · rcases r2 with ⟨_, z2, _⟩ | ⟨_, rfl⟩
      · exact absurd z2 (by simp [rEnd])
      · rfl
theorem rd_below {m : Nat} {T : ByteArray} {w w' : World} {e : Ending} (h : RdRes m T w e w') : Below w.heap.size w w' := by
  obtain ⟨_, _, _, _, _, _, _, _, _, _, _, _, hb, _⟩ := h
  exact hb
set_option maxHeartbeats 4000000 in
set_option maxRecDepth 100000 in
theorem l13reads_any (s0 : ByteArray) (w : World) : Calls Tryd.prog 3 #[.string s0] w fun e w' => e = .returned (.bool true) ∧ Below w.heap.size w w' := by
  have zS := shN_size s0 400
  go_enter Tryd.func3, Tryd.ntmps3
  go_wp2_with (first
    | (go_at_call 7; refine (awake13 _).mono ?_; rintro e w1 ⟨rfl, hb1⟩)
    | (go_at_call 8; refine (short13_any s0 400 _).mono ?_; rintro e w2 ⟨rfl, rfl⟩)
    | (go_at_call 9; refine (pkread_any _ _ (by omega)).mono ?_))
  rintro e w2 h1
  obtain ⟨q, h, t, a0, a1, a2, a3, code, s, k, d, f, g, rfl⟩ := rd_form h1
  have H1 := Lib.hid h1
  have hB := BW_on hb1 (rd_below h1)
  have hk := blk1 w2 30 #[.int .i64 q, .string s, .string k, .string d, .int .u64 a0, .int .u64 a1, .int .u64 a2, .int .u64 a3, .string f, .string g, .int .i64 h, .int .i64 t]
  have hB2 := BW_alloc hB (.cells #[.int .i64 q, .string s, .string k, .string d, .int .u64 a0, .int .u64 a1, .int .u64 a2, .int .u64 a3, .string f, .string g, .int .i64 h, .int .i64 t] 30)
  have heq := eqPkt_refl q h t a0 a1 a2 a3 s k d f g
  clear h1 hB hb1
  go_wp2_with (go_at_call 10; refine (r13read_any _ _ (by omega)).mono ?_)
  rintro e w3 h2
  have hb3 := rd_below h2
  obtain rfl := rd_same H1.out h2
  have hk3 := (hk.on hb3).alloc (.cells #[.int .i64 q, .string s, .string k, .string d, .int .u64 a0, .int .u64 a1, .int .u64 a2, .int .u64 a3, .string f, .string g, .int .i64 h, .int .i64 t] 30)
  have hc3 := (fun i => hk3.cell i)
  have hB3 := BW_alloc (BW_on hB2 hb3) (.cells #[.int .i64 q, .string s, .string k, .string d, .int .u64 a0, .int .u64 a1, .int .u64 a2, .int .u64 a3, .string f, .string g, .int .i64 h, .int .i64 t] 30)
  clear h2 H1 hk
  go_wp2_with fail
  go_ret
  exact ⟨rfl, hB3⟩
end Go.Proofs.YtbimnfmjgmfijaaDoor
