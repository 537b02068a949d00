/- Contracts of layer 11 (bank): Balance, Supply; more and less. -/
import Derived.Test.YtpcdgljcpacpiaaGreatDoorBb
namespace Go.Proofs.YtpcdgljcpacpiaaGreatDoor
open Go.RowKit
attribute [local go_sem ↓] Go.wp_at_zero Go.wp_at_succ
/-- Boxes that stand, all made behind a world's end. -/
structure BxS (w0 : World) (Bs : List (Nat × TypeId × Array Value)) (W : World) : Prop where
  bl : ∀ x ∈ Bs, Blk W x.1 x.2.1 x.2.2
  hb : Below w0.heap.size w0 W
theorem BxS.on {w0 W W' : World} {Bs : List (Nat × TypeId × Array Value)} (h : BxS w0 Bs W) (hb : Below W.heap.size W W') : BxS w0 Bs W' := ⟨fun x hx => (h.bl x hx).on hb, BW_on h.hb hb⟩
theorem BxS.drew {w0 W : World} {Bs : List (Nat × TypeId × Array Value)} (h : BxS w0 Bs W) : BxS w0 Bs W.drew := h.on (Below.refl _ _).drew
theorem BxS.nil {w0 W : World} (h : Below w0.heap.size w0 W) : BxS w0 [] W := ⟨(fun x hx => by cases hx), h⟩
theorem BxS.cons {w0 W : World} {Bs : List (Nat × TypeId × Array Value)} {g : Nat} {t : TypeId} {cs : Array Value} (h : BxS w0 Bs W) (k : Blk W g t cs) : BxS w0 ((g, t, cs) :: Bs) W := ⟨fun x hx => by
  rcases List.mem_cons.1 hx with rfl | hx
  · exact k
  · exact h.bl x hx, h.hb⟩
theorem blk_far {g g2 : Nat} {t : TypeId} {cs : Array Value} (hne : g2 ≠ g) : ∀ (vs : List Value) (o : Nat) (w : World), Blk w g2 t cs → Blk (w.setCells g o vs) g2 t cs
  | [], _, _, h => h
  | v :: r, o, _, h => blk_far hne r (o + 1) _ (h.far (p := ⟨g, o, none⟩) hne v)
theorem BxS.put {w0 W : World} {Bs : List (Nat × TypeId × Array Value)} {g : Nat} (h : BxS w0 Bs W) (hg : ∀ x ∈ Bs, x.1 ≠ g) (hle : w0.heap.size ≤ g) (vs : List Value) : BxS w0 Bs (W.setCells g 0 vs) :=
  ⟨fun x hx => blk_far (hg x hx) vs 0 W (h.bl x hx), below_setCells vs 0 _ h.hb hle⟩
theorem Blk.there {W : World} {g : Nat} {t : TypeId} {cs : Array Value} (k : Blk W g t cs) {n : Nat} (hn : n ≤ cs.size) : W.there g 0 n := fun j hj => by
  rw [Nat.zero_add]
  exact ⟨by rw [k.cell, Array.getElem?_eq_getElem (by omega)]; rfl, k.free j⟩
theorem ne1 {α : Type} {g0 g : Nat} {a : α} (h : g0 ≠ g) : ∀ x ∈ ([(g0, a)] : List (Nat × α)), x.1 ≠ g := by simpa using h
theorem one4 (a b c d : Int) : (([.int .u64 a, .int .u64 b, .int .u64 c, .int .u64 d] : List Value).toArray.all fun x => x.oneCell') = true := by simp [Value.oneCell']
theorem ne3 {α : Type} {g0 g1 g2 g : Nat} {a b c : α} (h0 : g0 ≠ g) (h1 : g1 ≠ g) (h2 : g2 ≠ g) : ∀ x ∈ ([(g0, a), (g1, b), (g2, c)] : List (Nat × α)), x.1 ≠ g := by simpa using ⟨h0, h1, h2⟩
theorem szW : (Tryz.prog.info? 31).map (·.size) = some 4 := by kernel_rfl
theorem szD : (Tryz.prog.info? 27).map (·.size) = some 1 := by kernel_rfl
set_option maxHeartbeats 4000000 in
set_option maxRecDepth 100000 in
theorem bbal_any (v : Value) (E : List Ent) (a d : ByteArray) (w : World) (hv : Ents w v E) (hs : Srt E) (hl : E.length ≤ 2000) (ha : a.size ≤ 1000000) (hd : d.size ≤ 1000000) : Calls Tryz.prog 100 #[.agg #[v], .string a, .string d] w fun e w' => e = .returned (wv (ng E (keyB a d))) ∧ Below w.heap.size w w' := by
  obtain ⟨q, cap, rfl⟩ := hv.len
  have hb0 := BW_alloc (BW_alloc (BW_refl w) (.cells #[.slice q E.length cap] 27)) (.cells #[.int .u64 0, .int .u64 0, .int .u64 0, .int .u64 0] 31)
  have ko := blk2 w (.cells #[.slice q E.length cap] 27) 31 #[.int .u64 0, .int .u64 0, .int .u64 0, .int .u64 0]
  have kd := (blk1 w 27 #[.slice q E.length cap]).alloc (.cells #[.int .u64 0, .int .u64 0, .int .u64 0, .int .u64 0] 31)
  go_enter Tryz.func100, Tryz.ntmps100
  go_upto_region 1 with (fail)
  change Code.wp _ _ _ _ ((w.alloc (.cells #[.slice q E.length cap] 27)).alloc (.cells #[.int .u64 0, .int .u64 0, .int .u64 0, .int .u64 0] 31))
  generalize (w.alloc (.cells #[.slice q E.length cap] 27)).alloc (.cells #[.int .u64 0, .int .u64 0, .int .u64 0, .int .u64 0] 31) = W at *
  have kod := ko.drew
  refine wp_region_held_drew (S := BxS w [(w.heap.size, 27, #[.slice q E.length cap])]) (by kernel_rfl) ((BxS.nil hb0).cons kd).drew (fun hH0 => ?_)
  refine wpAnyH_take (i := 0) (v := .agg #[.slice q E.length cap]) rfl (by kernel_rfl) (by kernel_rfl) (by kernel_rfl) (fun _ _ _ h => h) (yk_load (by kernel_rfl) _ _ rfl (.pointer (some ⟨w.heap.size, 0, none⟩)) (by kernel_rfl) _ (fun w' hw' => by have c0 := (hw'.bl _ (.head _)).cell 0; go_simp)) hH0 ?_
  refine wpAnyH_take (i := 1) (v := .string a) rfl (by kernel_rfl) (by kernel_rfl) (by kernel_rfl) (fun _ _ _ h => h) (yk_move (by kernel_rfl) _ rfl _ (by kernel_rfl)) hH0 ?_
  refine wpAnyH_take (i := 2) (v := .string d) rfl (by kernel_rfl) (by kernel_rfl) (by kernel_rfl) (fun _ _ _ h => h) (yk_move (by kernel_rfl) _ rfl _ (by kernel_rfl)) hH0 ?_
  refine wpAnyH_ready (rs := [3]) (by kernel_rfl) (by simp) ?_
  refine AllReadyH.cons rfl (fun K hK => ?_) AllReadyH.nil
  go_simp
  go_at_call 69
  refine (bkey_any a d _ ha hd).mono ?_
  rintro e w3 ⟨rfl, hdk⟩
  go_wp2_with fail
  refine hK.out _ _ (hH0.on hdk) (fun hH1 => ?_)
  clear hK K
  have kok := kod.on hdk
  refine wpAnyH_ready (rs := [4]) (by kernel_rfl) (by simp) ?_
  refine AllReadyH.cons rfl (fun K hK => ?_) AllReadyH.nil
  go_simp
  go_at_call 93
  refine (bget_any _ E (keyB a d) _ (hv.on hH1.hb) hs hl).mono ?_
  rintro e w4 ⟨rfl, hdg⟩
  go_wp2_with fail
  refine hK.out _ _ (hH1.on hdg) (fun hH2 => ?_)
  clear hK K
  have kog := kok.on hdg
  refine wpAnyH_ready (rs := [5]) (by kernel_rfl) (by simp) ?_
  refine AllReadyH.cons rfl (fun K hK => ?_) AllReadyH.nil
  rw [if_pos (by kernel_rfl)]
  refine wp_store_mid _ _ _ rfl (w.heap.size + 1) 0 [.int .u64 (limb (ng E (keyB a d)) 0), .int .u64 (limb (ng E (keyB a d)) 1), .int .u64 (limb (ng E (keyB a d)) 2), .int .u64 (limb (ng E (keyB a d)) 3)].toArray (by kernel_rfl) (by kernel_rfl) (kog.there (Nat.le_refl 4)) szW (one4 _ _ _ _) ?_
  simp only [Act.put, List.getElem_toArray, List.getElem_cons_zero, List.getElem_cons_succ]
  refine hK.out _ _ (hH2.put (ne1 (by omega)) (by omega) _) (fun hH3 => ?_)
  clear hK K
  refine wpAnyH_done (by kernel_rfl) ?_ _
  have hbf := hH3.hb
  have kf := setCells_all kog [.int .u64 (limb (ng E (keyB a d)) 0), .int .u64 (limb (ng E (keyB a d)) 1), .int .u64 (limb (ng E (keyB a d)) 2), .int .u64 (limb (ng E (keyB a d)) 3)] rfl
  go_wp2_with fail
  refine bodyPost_ret (v := .agg #[.int .u64 (limb (ng E (keyB a d)) 0), .int .u64 (limb (ng E (keyB a d)) 1), .int .u64 (limb (ng E (keyB a d)) 2), .int .u64 (limb (ng E (keyB a d)) 3)]) (results_cell_row Tryz.results100 _ _ (w.heap.size + 1) 31 _ (0, 0) _ (by rfl) kf Tryz.underlying31 rfl szW) rfl ⟨rfl, hbf⟩
theorem results_ct {P : Program} {fn : Func} {p u : Tmp} {ty : TypeId} (h : fn.results = #[.cell p ty, .tmp u]) (tmps : Array Value) (w : World) (g : Nat) (t : TypeId) (cs : Array Value) (fr : Nat × Nat) (d : TypeDesc)
    (hp : tmps.getD p undef = .pointer (some ⟨g, 0, none⟩)) (hg : w.heap[g]? = some (.cells cs t fr))
    (hu : P.underlying ty = some d) (hd : (match d with | .struct _ | .array _ _ => true | _ => false) = true) (hi : (P.info? ty).map (·.size) = some cs.size) (U : Value) (hU : tmps.getD u undef = U) :
    (results fn tmps).run P w = .ok (.tuple #[.agg cs, U]) w := by
  have hp' : tmps[p]?.getD undef = .pointer (some ⟨g, 0, none⟩) := by simpa using hp
  have hU' : tmps[u]?.getD undef = U := by simpa using hU
  simp [results, h, hp', hU', asAddr, run_loadVar_row w g t ty cs fr d hg hu hd hi]
section
variable {P : Program} {ops : Array Oper} {S : World → Prop} {op : Oper} {a : Act}
theorem yk_ext (hw : Region.wanted op (yielded ops a.tmps) = true) (x : Operand) (i : Nat) (ho : op.op = .extract x i) (X : Value) (hx : a.eval x = X) (v : Value)
    (hr : ∀ w, S w → (Instr.extract X i).run P w = .ok v w) : YieldsIf P ops S op v a :=
  .inl ⟨hw, fun w hS => by
    have h := hr w hS
    unfold execOp
    simp only [ho, hx]
    rw [Sem.run_bind, h]
    rfl⟩
end
def moreL (E : List Ent) (k : ByteArray) (n : Nat) : Int × List Ent := if wOk (ng E k + n) = true then (0, putL E k (wbB (ng E k + n))) else (17, [])
def lessL (E : List Ent) (k : ByteArray) (n : Nat) : Int × List Ent := if n ≤ ng E k then (0, setL E k (ng E k - n)) else (16, [])
theorem put_ok (v : Value) (E : List Ent) (k x : ByteArray) (w : World) (hv : Ents w v E) (hs : Srt E) (hl : E.length ≤ 1900) (hk : k.size ≤ 400) (hx : x.size = 32) :
    Calls Tryz.prog 30 #[.agg #[v], .string k, .string x] w fun e w' => ∃ q cap, e = .returned (.tuple #[.agg #[.slice q (putL E k x).length cap], .int .i64 0]) ∧ Ents w' (.slice q (putL E k x).length cap) (putL E k x) ∧ Below w.heap.size w w' := by
  refine (put_any v E k x w hv hs (by omega)).mono ?_
  rintro e w' ⟨v', c, rfl, h, hb⟩
  rcases h with ⟨_, rfl, hen⟩ | ⟨hno, _⟩
  · obtain ⟨q, cap, rfl⟩ := hen.len
    exact ⟨q, cap, rfl, hen, hb⟩
  · exact absurd ⟨hk, by omega, .inr (by omega)⟩ hno
theorem drop_row (v : Value) (E : List Ent) (k : ByteArray) (w : World) (hv : Ents w v E) (hs : Srt E) (hl : E.length ≤ 2000) :
    Calls Tryz.prog 94 #[.agg #[v], .string k] w fun e w' => ∃ q cap b, e = .returned (.tuple #[.agg #[.slice q (dropL E k).length cap], .bool b]) ∧ Ents w' (.slice q (dropL E k).length cap) (dropL E k) ∧ Below w.heap.size w w' := by
  refine (drop_any v E k w hv hs hl).mono ?_
  rintro e w' ⟨v', rfl, hen, hb⟩
  obtain ⟨q, cap, rfl⟩ := hen.len
  exact ⟨q, cap, _, rfl, hen, hb⟩
theorem wN_no {X : Nat} (h : wOk X = false) : wN X = 0 := if_neg (of_decide_eq_false h)
theorem wN_of0 {X : Nat} (h : wOk X = true) : wN X = X ∧ W256 X := by
  have h1 := of_decide_eq_true h
  exact ⟨if_pos h1, h1⟩
set_option maxHeartbeats 4000000 in
set_option maxRecDepth 100000 in
theorem more1_any (v : Value) (E : List Ent) (k : ByteArray) (n bk bn : Nat) (w : World) (hv : Ents w v E) (hs : Srt E) (hl : E.length ≤ 1900) (hk : k.size ≤ 400) (hn : W256 n) (hbk : Blk w bk 9 #[.string k]) (hbn : Blk w bn 31 #[.int .u64 (limb n 0), .int .u64 (limb n 1), .int .u64 (limb n 2), .int .u64 (limb n 3)]) :
    Calls Tryz.prog 114 #[.agg #[v], .pointer (some ⟨bk, 0, none⟩), .pointer (some ⟨bn, 0, none⟩)] w fun e w' => ∃ q cap, e = .returned (.tuple #[.agg #[.slice q (moreL E k n).2.length cap], .int .i64 (moreL E k n).1]) ∧ Ents w' (.slice q (moreL E k n).2.length cap) (moreL E k n).2 ∧ Below w.heap.size w w' := by
  obtain ⟨q, cap, rfl⟩ := hv.len
  have hN := ng_lt E k
  have hb0 := BW_alloc (BW_alloc (BW_refl w) (.cells #[.slice q E.length cap] 27)) (.cells #[.slice none 0 0] 27)
  have ko := blk2 w (.cells #[.slice q E.length cap] 27) 27 #[.slice none 0 0]
  have kd := (blk1 w 27 #[.slice q E.length cap]).alloc (.cells #[.slice none 0 0] 27)
  have hkW := hbk.on hb0
  have hnW := hbn.on hb0
  have hltk := hbk.lt
  have hltn := hbn.lt
  have hszW := ko.lt
  clear hbk hbn
  go_enter Tryz.func114, Tryz.ntmps114
  go_upto_region 1 with (fail)
  change Code.wp _ _ _ _ ((w.alloc (.cells #[.slice q E.length cap] 27)).alloc (.cells #[.slice none 0 0] 27))
  generalize (w.alloc (.cells #[.slice q E.length cap] 27)).alloc (.cells #[.slice none 0 0] 27) = W at *
  have hvW := hv.on hb0
  cases hok : wOk (ng E k + n)
  · refine wp_region_held_drew (S := BxS W [(w.heap.size, 27, #[.slice q E.length cap]), (bk, 9, #[.string k]), (bn, 31, #[.int .u64 (limb n 0), .int .u64 (limb n 1), .int .u64 (limb n 2), .int .u64 (limb n 3)])]) (by kernel_rfl) ((((BxS.nil (BW_refl W)).cons hnW).cons hkW).cons kd).drew (fun hH0 => ?_)
    refine wpAnyH_take (i := 0) (v := .agg #[.slice q E.length cap]) rfl (by kernel_rfl) (by kernel_rfl) (by kernel_rfl) (fun _ _ _ h => h) (yk_load (by kernel_rfl) _ _ rfl (.pointer (some ⟨w.heap.size, 0, none⟩)) (by kernel_rfl) _ (fun w' hw' => by have c0 := (hw'.bl _ (.head _)).cell 0; go_simp)) hH0 ?_
    refine wpAnyH_take (i := 1) (v := .string k) rfl (by kernel_rfl) (by kernel_rfl) (by kernel_rfl) (fun _ _ _ h => h) (yk_load (by kernel_rfl) _ _ rfl (.pointer (some ⟨bk, 0, none⟩)) (by kernel_rfl) _ (fun w' hw' => by have c0 := (hw'.bl _ (.tail _ (.head _))).cell 0; go_simp)) hH0 ?_
    refine wpAnyH_take (i := 3) (v := .agg #[.int .u64 (limb n 0), .int .u64 (limb n 1), .int .u64 (limb n 2), .int .u64 (limb n 3)]) rfl (by kernel_rfl) (by kernel_rfl) (by kernel_rfl) (fun _ _ _ h => h) (yk_load (by kernel_rfl) _ _ rfl (.pointer (some ⟨bn, 0, none⟩)) (by kernel_rfl) _ (fun w' hw' => by have c0 := (hw'.bl _ (.tail _ (.tail _ (.head _)))).cell 0; have c1 := (hw'.bl _ (.tail _ (.tail _ (.head _)))).cell 1; have c2 := (hw'.bl _ (.tail _ (.tail _ (.head _)))).cell 2; have c3 := (hw'.bl _ (.tail _ (.tail _ (.head _)))).cell 3; go_simp)) hH0 ?_
    refine wpAnyH_ready (rs := [2, 8]) (by kernel_rfl) (by simp) ?_
    refine AllReadyH.cons rfl (fun K hK => ?_) (AllReadyH.cons rfl (fun K hK => ?_) (AllReadyH.nil))
    · go_simp
      go_at_call 93
      refine (bget_any _ E k _ (hvW.on hH0.hb) hs (by omega)).mono ?_
      rintro e w2 ⟨rfl, hd2⟩
      go_wp2_with fail
      refine hK.out _ _ (hH0.on hd2) (fun hH1 => ?_)
      clear hK K
      
      refine wpAnyH_ready (rs := [4, 8]) (by kernel_rfl) (by simp) ?_
      refine AllReadyH.cons rfl (fun K hK => ?_) (AllReadyH.cons rfl (fun K hK => ?_) (AllReadyH.nil))
      · go_simp
        go_at_call 99
        refine (add_any (ng E k) n hN hn _).mono ?_
        rintro e w4 ⟨rfl, hd4⟩
        rw [hok, wN_no hok]
        go_wp2_with fail
        refine hK.out _ _ (hH1.on hd4) (fun hH2 => ?_)
        clear hK K
        
        refine wpAnyH_take (i := 5) (v := .tuple #[.agg #[.int .u64 0, .int .u64 0, .int .u64 0, .int .u64 0], .bool false]) rfl (by kernel_rfl) (by kernel_rfl) (by kernel_rfl) (fun _ _ _ h => h) (yk_move (by kernel_rfl) _ rfl _ (by kernel_rfl)) hH2 ?_
        refine wpAnyH_take (i := 6) (v := .agg #[.int .u64 0, .int .u64 0, .int .u64 0, .int .u64 0]) rfl (by kernel_rfl) (by kernel_rfl) (by kernel_rfl) (fun _ _ _ h => h) (yk_ext (by kernel_rfl) _ _ rfl (.tuple #[.agg #[.int .u64 0, .int .u64 0, .int .u64 0, .int .u64 0], .bool false]) (by kernel_rfl) _ (fun _ _ => rfl)) hH2 ?_
        refine wpAnyH_take (i := 7) (v := .bool false) rfl (by kernel_rfl) (by kernel_rfl) (by kernel_rfl) (fun _ _ _ h => h) (yk_ext (by kernel_rfl) _ _ rfl (.tuple #[.agg #[.int .u64 0, .int .u64 0, .int .u64 0, .int .u64 0], .bool false]) (by kernel_rfl) _ (fun _ _ => rfl)) hH2 ?_
        have kz : Blk ((w4).alloc (.cells #[.int .u64 0, .int .u64 0, .int .u64 0, .int .u64 0] 31)) (w4).heap.size 31 #[.int .u64 0, .int .u64 0, .int .u64 0, .int .u64 0] := blk1 (w4) 31 #[.int .u64 0, .int .u64 0, .int .u64 0, .int .u64 0]
        have hzl : W.heap.size ≤ (w4).heap.size := hH2.hb.size
        refine wpAnyH_ready (rs := [8]) (by kernel_rfl) (by simp) ?_
        refine AllReadyH.cons rfl (fun K hK => ?_) AllReadyH.nil
        go_simp
        refine hK.out _ _ (hH2.on (BW_alloc (BW_refl _) _)) (fun hH3 => ?_)
        clear hK K
        refine wpAnyH_ready (rs := [9]) (by kernel_rfl) (by simp) ?_
        refine AllReadyH.cons rfl (fun K hK => ?_) AllReadyH.nil
        rw [if_pos (by kernel_rfl)]
        refine wp_store_mid _ _ _ rfl ((w4).heap.size) 0 [.int .u64 0, .int .u64 0, .int .u64 0, .int .u64 0].toArray (by kernel_rfl) (by kernel_rfl) (kz.there (Nat.le_refl 4)) szW (one4 _ _ _ _) ?_
        simp only [Act.put, List.getElem_toArray, List.getElem_cons_zero, List.getElem_cons_succ]
        refine hK.out _ _ (hH3.put (ne3 (by omega) (by omega) (by omega)) (by omega) _) (fun hH4 => ?_)
        clear hK K
        refine wpAnyH_take (i := 10) (v := .bool false) rfl (by kernel_rfl) (by kernel_rfl) (by kernel_rfl) (fun _ _ _ h => h) (yk_assign (by kernel_rfl) _ rfl _ (by kernel_rfl)) hH4 ?_
        refine wpAnyH_done (by kernel_rfl) ?_ _
        have hB := hH4.hb
        replace kz := setCells_all kz [.int .u64 0, .int .u64 0, .int .u64 0, .int .u64 0] rfl
        change Exit.then _ _ _ _ ((w4.alloc (.cells #[.int .u64 0, .int .u64 0, .int .u64 0, .int .u64 0] 31)).setCells ((w4).heap.size) 0 [.int .u64 0, .int .u64 0, .int .u64 0, .int .u64 0])
        generalize hZ : (w4.alloc (.cells #[.int .u64 0, .int .u64 0, .int .u64 0, .int .u64 0] 31)).setCells ((w4).heap.size) 0 [.int .u64 0, .int .u64 0, .int .u64 0, .int .u64 0] = Z at *
        generalize (w4).heap.size = gz at *
        clear hH0 hH1 hH2 hH3 hH4 hd2 hd4 hZ
        have co := fun i => (ko.on hB).cell i
        have fo := fun i => (ko.on hB).free i
        have hbf := (BW_on hb0 hB).setCell (p := ⟨w.heap.size + 1, 0, none⟩) (by show w.heap.size ≤ w.heap.size + 1; omega) (.slice none 0 0)
        go_wp2_with fail
        have hcc := fun i => ((ko.on hB).set_ 0 (.slice none 0 0)).cell i
        have e1 : moreL E k n = (17, []) := by unfold moreL; rw [hok]; rfl
        refine bodyPost_ret (v := .tuple #[.agg #[.slice none 0 0], .int .i64 17]) (by simp [results, Tryz.results114, go_sem, hcc]) rfl ?_
        rw [e1]
        exact ⟨none, 0, rfl, Ents.nil _, hbf⟩
      · have kz : Blk ((w2).alloc (.cells #[.int .u64 0, .int .u64 0, .int .u64 0, .int .u64 0] 31)) (w2).heap.size 31 #[.int .u64 0, .int .u64 0, .int .u64 0, .int .u64 0] := blk1 (w2) 31 #[.int .u64 0, .int .u64 0, .int .u64 0, .int .u64 0]
        have hzl : W.heap.size ≤ (w2).heap.size := hH1.hb.size
        go_simp
        refine hK.out _ _ (hH1.on (BW_alloc (BW_refl _) _)) (fun hH2 => ?_)
        clear hK K
        refine wpAnyH_ready (rs := [4]) (by kernel_rfl) (by simp) ?_
        refine AllReadyH.cons rfl (fun K hK => ?_) AllReadyH.nil
        go_simp
        go_at_call 99
        refine (add_any (ng E k) n hN hn _).mono ?_
        rintro e w4 ⟨rfl, hd4⟩
        rw [hok, wN_no hok]
        go_wp2_with fail
        refine hK.out _ _ (hH2.on hd4) (fun hH3 => ?_)
        clear hK K
        replace kz := kz.on hd4
        refine wpAnyH_take (i := 5) (v := .tuple #[.agg #[.int .u64 0, .int .u64 0, .int .u64 0, .int .u64 0], .bool false]) rfl (by kernel_rfl) (by kernel_rfl) (by kernel_rfl) (fun _ _ _ h => h) (yk_move (by kernel_rfl) _ rfl _ (by kernel_rfl)) hH3 ?_
        refine wpAnyH_take (i := 6) (v := .agg #[.int .u64 0, .int .u64 0, .int .u64 0, .int .u64 0]) rfl (by kernel_rfl) (by kernel_rfl) (by kernel_rfl) (fun _ _ _ h => h) (yk_ext (by kernel_rfl) _ _ rfl (.tuple #[.agg #[.int .u64 0, .int .u64 0, .int .u64 0, .int .u64 0], .bool false]) (by kernel_rfl) _ (fun _ _ => rfl)) hH3 ?_
        refine wpAnyH_take (i := 7) (v := .bool false) rfl (by kernel_rfl) (by kernel_rfl) (by kernel_rfl) (fun _ _ _ h => h) (yk_ext (by kernel_rfl) _ _ rfl (.tuple #[.agg #[.int .u64 0, .int .u64 0, .int .u64 0, .int .u64 0], .bool false]) (by kernel_rfl) _ (fun _ _ => rfl)) hH3 ?_
        refine wpAnyH_ready (rs := [9]) (by kernel_rfl) (by simp) ?_
        refine AllReadyH.cons rfl (fun K hK => ?_) AllReadyH.nil
        rw [if_pos (by kernel_rfl)]
        refine wp_store_mid _ _ _ rfl ((w2).heap.size) 0 [.int .u64 0, .int .u64 0, .int .u64 0, .int .u64 0].toArray (by kernel_rfl) (by kernel_rfl) (kz.there (Nat.le_refl 4)) szW (one4 _ _ _ _) ?_
        simp only [Act.put, List.getElem_toArray, List.getElem_cons_zero, List.getElem_cons_succ]
        refine hK.out _ _ (hH3.put (ne3 (by omega) (by omega) (by omega)) (by omega) _) (fun hH4 => ?_)
        clear hK K
        refine wpAnyH_take (i := 10) (v := .bool false) rfl (by kernel_rfl) (by kernel_rfl) (by kernel_rfl) (fun _ _ _ h => h) (yk_assign (by kernel_rfl) _ rfl _ (by kernel_rfl)) hH4 ?_
        refine wpAnyH_done (by kernel_rfl) ?_ _
        have hB := hH4.hb
        replace kz := setCells_all kz [.int .u64 0, .int .u64 0, .int .u64 0, .int .u64 0] rfl
        change Exit.then _ _ _ _ (w4.setCells ((w2).heap.size) 0 [.int .u64 0, .int .u64 0, .int .u64 0, .int .u64 0])
        generalize hZ : w4.setCells ((w2).heap.size) 0 [.int .u64 0, .int .u64 0, .int .u64 0, .int .u64 0] = Z at *
        generalize (w2).heap.size = gz at *
        clear hH0 hH1 hH2 hH3 hH4 hd2 hd4 hZ
        have co := fun i => (ko.on hB).cell i
        have fo := fun i => (ko.on hB).free i
        have hbf := (BW_on hb0 hB).setCell (p := ⟨w.heap.size + 1, 0, none⟩) (by show w.heap.size ≤ w.heap.size + 1; omega) (.slice none 0 0)
        go_wp2_with fail
        have hcc := fun i => ((ko.on hB).set_ 0 (.slice none 0 0)).cell i
        have e1 : moreL E k n = (17, []) := by unfold moreL; rw [hok]; rfl
        refine bodyPost_ret (v := .tuple #[.agg #[.slice none 0 0], .int .i64 17]) (by simp [results, Tryz.results114, go_sem, hcc]) rfl ?_
        rw [e1]
        exact ⟨none, 0, rfl, Ents.nil _, hbf⟩
    · have kz : Blk ((W.drew).alloc (.cells #[.int .u64 0, .int .u64 0, .int .u64 0, .int .u64 0] 31)) (W).heap.size 31 #[.int .u64 0, .int .u64 0, .int .u64 0, .int .u64 0] := blk1 (W.drew) 31 #[.int .u64 0, .int .u64 0, .int .u64 0, .int .u64 0]
      have hzl : W.heap.size ≤ (W).heap.size := hH0.hb.size
      go_simp
      refine hK.out _ _ (hH0.on (BW_alloc (BW_refl _) _)) (fun hH1 => ?_)
      clear hK K
      refine wpAnyH_ready (rs := [2]) (by kernel_rfl) (by simp) ?_
      refine AllReadyH.cons rfl (fun K hK => ?_) AllReadyH.nil
      go_simp
      go_at_call 93
      refine (bget_any _ E k _ (hvW.on hH1.hb) hs (by omega)).mono ?_
      rintro e w2 ⟨rfl, hd2⟩
      go_wp2_with fail
      refine hK.out _ _ (hH1.on hd2) (fun hH2 => ?_)
      clear hK K
      replace kz := kz.on hd2
      refine wpAnyH_ready (rs := [4]) (by kernel_rfl) (by simp) ?_
      refine AllReadyH.cons rfl (fun K hK => ?_) AllReadyH.nil
      go_simp
      go_at_call 99
      refine (add_any (ng E k) n hN hn _).mono ?_
      rintro e w4 ⟨rfl, hd4⟩
      rw [hok, wN_no hok]
      go_wp2_with fail
      refine hK.out _ _ (hH2.on hd4) (fun hH3 => ?_)
      clear hK K
      replace kz := kz.on hd4
      refine wpAnyH_take (i := 5) (v := .tuple #[.agg #[.int .u64 0, .int .u64 0, .int .u64 0, .int .u64 0], .bool false]) rfl (by kernel_rfl) (by kernel_rfl) (by kernel_rfl) (fun _ _ _ h => h) (yk_move (by kernel_rfl) _ rfl _ (by kernel_rfl)) hH3 ?_
      refine wpAnyH_take (i := 6) (v := .agg #[.int .u64 0, .int .u64 0, .int .u64 0, .int .u64 0]) rfl (by kernel_rfl) (by kernel_rfl) (by kernel_rfl) (fun _ _ _ h => h) (yk_ext (by kernel_rfl) _ _ rfl (.tuple #[.agg #[.int .u64 0, .int .u64 0, .int .u64 0, .int .u64 0], .bool false]) (by kernel_rfl) _ (fun _ _ => rfl)) hH3 ?_
      refine wpAnyH_take (i := 7) (v := .bool false) rfl (by kernel_rfl) (by kernel_rfl) (by kernel_rfl) (fun _ _ _ h => h) (yk_ext (by kernel_rfl) _ _ rfl (.tuple #[.agg #[.int .u64 0, .int .u64 0, .int .u64 0, .int .u64 0], .bool false]) (by kernel_rfl) _ (fun _ _ => rfl)) hH3 ?_
      refine wpAnyH_ready (rs := [9]) (by kernel_rfl) (by simp) ?_
      refine AllReadyH.cons rfl (fun K hK => ?_) AllReadyH.nil
      rw [if_pos (by kernel_rfl)]
      refine wp_store_mid _ _ _ rfl ((W).heap.size) 0 [.int .u64 0, .int .u64 0, .int .u64 0, .int .u64 0].toArray (by kernel_rfl) (by kernel_rfl) (kz.there (Nat.le_refl 4)) szW (one4 _ _ _ _) ?_
      simp only [Act.put, List.getElem_toArray, List.getElem_cons_zero, List.getElem_cons_succ]
      refine hK.out _ _ (hH3.put (ne3 (by omega) (by omega) (by omega)) (by omega) _) (fun hH4 => ?_)
      clear hK K
      refine wpAnyH_take (i := 10) (v := .bool false) rfl (by kernel_rfl) (by kernel_rfl) (by kernel_rfl) (fun _ _ _ h => h) (yk_assign (by kernel_rfl) _ rfl _ (by kernel_rfl)) hH4 ?_
      refine wpAnyH_done (by kernel_rfl) ?_ _
      have hB := hH4.hb
      replace kz := setCells_all kz [.int .u64 0, .int .u64 0, .int .u64 0, .int .u64 0] rfl
      change Exit.then _ _ _ _ (w4.setCells ((W).heap.size) 0 [.int .u64 0, .int .u64 0, .int .u64 0, .int .u64 0])
      generalize hZ : w4.setCells ((W).heap.size) 0 [.int .u64 0, .int .u64 0, .int .u64 0, .int .u64 0] = Z at *
      have hgz0 := hzl
      clear hH0 hH1 hH2 hH3 hH4 hd2 hd4 hZ
      have co := fun i => (ko.on hB).cell i
      have fo := fun i => (ko.on hB).free i
      have hbf := (BW_on hb0 hB).setCell (p := ⟨w.heap.size + 1, 0, none⟩) (by show w.heap.size ≤ w.heap.size + 1; omega) (.slice none 0 0)
      go_wp2_with fail
      have hcc := fun i => ((ko.on hB).set_ 0 (.slice none 0 0)).cell i
      have e1 : moreL E k n = (17, []) := by unfold moreL; rw [hok]; rfl
      refine bodyPost_ret (v := .tuple #[.agg #[.slice none 0 0], .int .i64 17]) (by simp [results, Tryz.results114, go_sem, hcc]) rfl ?_
      rw [e1]
      exact ⟨none, 0, rfl, Ents.nil _, hbf⟩
  · have hNS := (wN_of0 hok).2
    have e1 : moreL E k n = (0, putL E k (wbB (ng E k + n))) := by unfold moreL; rw [hok]; rfl
    have E1 := Lib.hid e1
    clear e1
    refine wp_region_held_drew (S := BxS W [(w.heap.size, 27, #[.slice q E.length cap]), (bk, 9, #[.string k]), (bn, 31, #[.int .u64 (limb n 0), .int .u64 (limb n 1), .int .u64 (limb n 2), .int .u64 (limb n 3)])]) (by kernel_rfl) ((((BxS.nil (BW_refl W)).cons hnW).cons hkW).cons kd).drew (fun hH0 => ?_)
    refine wpAnyH_take (i := 0) (v := .agg #[.slice q E.length cap]) rfl (by kernel_rfl) (by kernel_rfl) (by kernel_rfl) (fun _ _ _ h => h) (yk_load (by kernel_rfl) _ _ rfl (.pointer (some ⟨w.heap.size, 0, none⟩)) (by kernel_rfl) _ (fun w' hw' => by have c0 := (hw'.bl _ (.head _)).cell 0; go_simp)) hH0 ?_
    refine wpAnyH_take (i := 1) (v := .string k) rfl (by kernel_rfl) (by kernel_rfl) (by kernel_rfl) (fun _ _ _ h => h) (yk_load (by kernel_rfl) _ _ rfl (.pointer (some ⟨bk, 0, none⟩)) (by kernel_rfl) _ (fun w' hw' => by have c0 := (hw'.bl _ (.tail _ (.head _))).cell 0; go_simp)) hH0 ?_
    refine wpAnyH_take (i := 3) (v := .agg #[.int .u64 (limb n 0), .int .u64 (limb n 1), .int .u64 (limb n 2), .int .u64 (limb n 3)]) rfl (by kernel_rfl) (by kernel_rfl) (by kernel_rfl) (fun _ _ _ h => h) (yk_load (by kernel_rfl) _ _ rfl (.pointer (some ⟨bn, 0, none⟩)) (by kernel_rfl) _ (fun w' hw' => by have c0 := (hw'.bl _ (.tail _ (.tail _ (.head _)))).cell 0; have c1 := (hw'.bl _ (.tail _ (.tail _ (.head _)))).cell 1; have c2 := (hw'.bl _ (.tail _ (.tail _ (.head _)))).cell 2; have c3 := (hw'.bl _ (.tail _ (.tail _ (.head _)))).cell 3; go_simp)) hH0 ?_
    refine wpAnyH_ready (rs := [2, 8]) (by kernel_rfl) (by simp) ?_
    refine AllReadyH.cons rfl (fun K hK => ?_) (AllReadyH.cons rfl (fun K hK => ?_) (AllReadyH.nil))
    · go_simp
      go_at_call 93
      refine (bget_any _ E k _ (hvW.on hH0.hb) hs (by omega)).mono ?_
      rintro e w2 ⟨rfl, hd2⟩
      go_wp2_with fail
      refine hK.out _ _ (hH0.on hd2) (fun hH1 => ?_)
      clear hK K
      
      refine wpAnyH_ready (rs := [4, 8]) (by kernel_rfl) (by simp) ?_
      refine AllReadyH.cons rfl (fun K hK => ?_) (AllReadyH.cons rfl (fun K hK => ?_) (AllReadyH.nil))
      · go_simp
        go_at_call 99
        refine (add_any (ng E k) n hN hn _).mono ?_
        rintro e w4 ⟨rfl, hd4⟩
        rw [hok, (wN_of0 hok).1]
        go_wp2_with fail
        refine hK.out _ _ (hH1.on hd4) (fun hH2 => ?_)
        clear hK K
        
        refine wpAnyH_take (i := 5) (v := .tuple #[.agg #[.int .u64 (limb (ng E k + n) 0), .int .u64 (limb (ng E k + n) 1), .int .u64 (limb (ng E k + n) 2), .int .u64 (limb (ng E k + n) 3)], .bool true]) rfl (by kernel_rfl) (by kernel_rfl) (by kernel_rfl) (fun _ _ _ h => h) (yk_move (by kernel_rfl) _ rfl _ (by kernel_rfl)) hH2 ?_
        refine wpAnyH_take (i := 6) (v := .agg #[.int .u64 (limb (ng E k + n) 0), .int .u64 (limb (ng E k + n) 1), .int .u64 (limb (ng E k + n) 2), .int .u64 (limb (ng E k + n) 3)]) rfl (by kernel_rfl) (by kernel_rfl) (by kernel_rfl) (fun _ _ _ h => h) (yk_ext (by kernel_rfl) _ _ rfl (.tuple #[.agg #[.int .u64 (limb (ng E k + n) 0), .int .u64 (limb (ng E k + n) 1), .int .u64 (limb (ng E k + n) 2), .int .u64 (limb (ng E k + n) 3)], .bool true]) (by kernel_rfl) _ (fun _ _ => rfl)) hH2 ?_
        refine wpAnyH_take (i := 7) (v := .bool true) rfl (by kernel_rfl) (by kernel_rfl) (by kernel_rfl) (fun _ _ _ h => h) (yk_ext (by kernel_rfl) _ _ rfl (.tuple #[.agg #[.int .u64 (limb (ng E k + n) 0), .int .u64 (limb (ng E k + n) 1), .int .u64 (limb (ng E k + n) 2), .int .u64 (limb (ng E k + n) 3)], .bool true]) (by kernel_rfl) _ (fun _ _ => rfl)) hH2 ?_
        have kz : Blk ((w4).alloc (.cells #[.int .u64 0, .int .u64 0, .int .u64 0, .int .u64 0] 31)) (w4).heap.size 31 #[.int .u64 0, .int .u64 0, .int .u64 0, .int .u64 0] := blk1 (w4) 31 #[.int .u64 0, .int .u64 0, .int .u64 0, .int .u64 0]
        have hzl : W.heap.size ≤ (w4).heap.size := hH2.hb.size
        refine wpAnyH_ready (rs := [8]) (by kernel_rfl) (by simp) ?_
        refine AllReadyH.cons rfl (fun K hK => ?_) AllReadyH.nil
        go_simp
        refine hK.out _ _ (hH2.on (BW_alloc (BW_refl _) _)) (fun hH3 => ?_)
        clear hK K
        refine wpAnyH_ready (rs := [9]) (by kernel_rfl) (by simp) ?_
        refine AllReadyH.cons rfl (fun K hK => ?_) AllReadyH.nil
        rw [if_pos (by kernel_rfl)]
        refine wp_store_mid _ _ _ rfl ((w4).heap.size) 0 [.int .u64 (limb (ng E k + n) 0), .int .u64 (limb (ng E k + n) 1), .int .u64 (limb (ng E k + n) 2), .int .u64 (limb (ng E k + n) 3)].toArray (by kernel_rfl) (by kernel_rfl) (kz.there (Nat.le_refl 4)) szW (one4 _ _ _ _) ?_
        simp only [Act.put, List.getElem_toArray, List.getElem_cons_zero, List.getElem_cons_succ]
        refine hK.out _ _ (hH3.put (ne3 (by omega) (by omega) (by omega)) (by omega) _) (fun hH4 => ?_)
        clear hK K
        refine wpAnyH_take (i := 10) (v := .bool true) rfl (by kernel_rfl) (by kernel_rfl) (by kernel_rfl) (fun _ _ _ h => h) (yk_assign (by kernel_rfl) _ rfl _ (by kernel_rfl)) hH4 ?_
        refine wpAnyH_done (by kernel_rfl) ?_ _
        have hB := hH4.hb
        replace kz := setCells_all kz [.int .u64 (limb (ng E k + n) 0), .int .u64 (limb (ng E k + n) 1), .int .u64 (limb (ng E k + n) 2), .int .u64 (limb (ng E k + n) 3)] rfl
        change Exit.then _ _ _ _ ((w4.alloc (.cells #[.int .u64 0, .int .u64 0, .int .u64 0, .int .u64 0] 31)).setCells ((w4).heap.size) 0 [.int .u64 (limb (ng E k + n) 0), .int .u64 (limb (ng E k + n) 1), .int .u64 (limb (ng E k + n) 2), .int .u64 (limb (ng E k + n) 3)])
        generalize hZ : (w4.alloc (.cells #[.int .u64 0, .int .u64 0, .int .u64 0, .int .u64 0] 31)).setCells ((w4).heap.size) 0 [.int .u64 (limb (ng E k + n) 0), .int .u64 (limb (ng E k + n) 1), .int .u64 (limb (ng E k + n) 2), .int .u64 (limb (ng E k + n) 3)] = Z at *
        generalize (w4).heap.size = gz at *
        clear hH0 hH1 hH2 hH3 hH4 hd2 hd4 hZ
        have kof := (ko.on hB).drew
        go_upto_region 4 with (fail)
        refine wp_region_held_drew (S := BxS w [(gz, 31, #[.int .u64 (limb (ng E k + n) 0), .int .u64 (limb (ng E k + n) 1), .int .u64 (limb (ng E k + n) 2), .int .u64 (limb (ng E k + n) 3)]), (w.heap.size, 27, #[.slice q E.length cap]), (bk, 9, #[.string k])]) (by kernel_rfl) ((((BxS.nil (BW_on hb0 hB)).cons (hkW.on hB)).cons (kd.on hB)).cons kz).drew (fun hH0 => ?_)
        refine wpAnyH_take (i := 0) (v := .agg #[.slice q E.length cap]) rfl (by kernel_rfl) (by kernel_rfl) (by kernel_rfl) (fun _ _ _ h => h) (yk_load (by kernel_rfl) _ _ rfl (.pointer (some ⟨w.heap.size, 0, none⟩)) (by kernel_rfl) _ (fun w' hw' => by have c0 := (hw'.bl _ (.tail _ (.head _))).cell 0; go_simp)) hH0 ?_
        refine wpAnyH_take (i := 1) (v := .string k) rfl (by kernel_rfl) (by kernel_rfl) (by kernel_rfl) (fun _ _ _ h => h) (yk_load (by kernel_rfl) _ _ rfl (.pointer (some ⟨bk, 0, none⟩)) (by kernel_rfl) _ (fun w' hw' => by have c0 := (hw'.bl _ (.tail _ (.tail _ (.head _)))).cell 0; go_simp)) hH0 ?_
        refine wpAnyH_take (i := 2) (v := .agg #[.int .u64 (limb (ng E k + n) 0), .int .u64 (limb (ng E k + n) 1), .int .u64 (limb (ng E k + n) 2), .int .u64 (limb (ng E k + n) 3)]) rfl (by kernel_rfl) (by kernel_rfl) (by kernel_rfl) (fun _ _ _ h => h) (yk_load (by kernel_rfl) _ _ rfl (.pointer (some ⟨gz, 0, none⟩)) (by kernel_rfl) _ (fun w' hw' => by have c0 := (hw'.bl _ (.head _)).cell 0; have c1 := (hw'.bl _ (.head _)).cell 1; have c2 := (hw'.bl _ (.head _)).cell 2; have c3 := (hw'.bl _ (.head _)).cell 3; go_simp)) hH0 ?_
        refine wpAnyH_ready (rs := [3]) (by kernel_rfl) (by simp) ?_
        refine AllReadyH.cons rfl (fun K hK => ?_) AllReadyH.nil
        go_simp
        go_at_call 95
        refine (bytes_any (ng E k + n) _).mono ?_
        rintro e w3 ⟨rfl, hd3⟩
        go_wp2_with fail
        refine hK.out _ _ (hH0.on hd3) (fun hH1 => ?_)
        clear hK K
        replace kof := kof.on hd3
        refine wpAnyH_ready (rs := [4]) (by kernel_rfl) (by simp) ?_
        refine AllReadyH.cons rfl (fun K hK => ?_) AllReadyH.nil
        go_simp
        go_at_call 30
        refine (put_ok _ E k (wbB (ng E k + n)) _ (hv.on hH1.hb) hs hl hk (wbB_size _)).mono ?_
        rintro e w4 ⟨q1, c1, rfl, hen, hd5⟩
        go_wp2_with fail
        refine hK.out _ _ (hH1.on hd5) (fun hH2 => ?_)
        clear hK K
        replace kof := kof.on hd5
        refine wpAnyH_take (i := 5) (v := .agg #[.slice q1 (putL E k (wbB (ng E k + n))).length c1]) rfl (by kernel_rfl) (by kernel_rfl) (by kernel_rfl) (fun _ _ _ h => h) (yk_ext (by kernel_rfl) _ _ rfl (.tuple #[.agg #[.slice q1 (putL E k (wbB (ng E k + n))).length c1], .int .i64 0]) (by kernel_rfl) _ (fun _ _ => rfl)) hH2 ?_
        refine wpAnyH_take (i := 6) (v := .int .i64 0) rfl (by kernel_rfl) (by kernel_rfl) (by kernel_rfl) (fun _ _ _ h => h) (yk_ext (by kernel_rfl) _ _ rfl (.tuple #[.agg #[.slice q1 (putL E k (wbB (ng E k + n))).length c1], .int .i64 0]) (by kernel_rfl) _ (fun _ _ => rfl)) hH2 ?_
        refine wpAnyH_ready (rs := [7]) (by kernel_rfl) (by simp) ?_
        refine AllReadyH.cons rfl (fun K hK => ?_) AllReadyH.nil
        rw [if_pos (by kernel_rfl)]
        refine wp_store_mid _ _ _ rfl (w.heap.size + 1) 0 [.slice q1 (putL E k (wbB (ng E k + n))).length c1].toArray (by kernel_rfl) (by kernel_rfl) (kof.there (Nat.le_refl 1)) szD (by simp [Value.oneCell']) ?_
        simp only [Act.put, List.getElem_toArray, List.getElem_cons_zero, List.getElem_cons_succ]
        refine hK.out _ _ (hH2.put (ne3 (by omega) (by omega) (by omega)) (by omega) _) (fun hH3 => ?_)
        clear hK K
        refine wpAnyH_take (i := 8) (v := .int .i64 0) rfl (by kernel_rfl) (by kernel_rfl) (by kernel_rfl) (fun _ _ _ h => h) (yk_assign (by kernel_rfl) _ rfl _ (by kernel_rfl)) hH3 ?_
        refine wpAnyH_done (by kernel_rfl) ?_ _
        have hbf := hH3.hb
        have kf := setCells_all kof [.slice q1 (putL E k (wbB (ng E k + n))).length c1] rfl
        have hef := hen.box kof (.slice q1 (putL E k (wbB (ng E k + n))).length c1)
        change Exit.then _ _ _ _ (w4.setCells (w.heap.size + 1) 0 [.slice q1 (putL E k (wbB (ng E k + n))).length c1])
        change Ents (w4.setCells (w.heap.size + 1) 0 [.slice q1 (putL E k (wbB (ng E k + n))).length c1]) _ _ at hef
        generalize w4.setCells (w.heap.size + 1) 0 [.slice q1 (putL E k (wbB (ng E k + n))).length c1] = Y at *
        clear hH0 hH1 hH2 hH3 hd3 hd5 hen kof
        go_wp2_with fail
        refine bodyPost_ret (v := .tuple #[.agg #[.slice q1 (putL E k (wbB (ng E k + n))).length c1], .int .i64 0]) ?hr ?hd ?hp
        case hr => exact results_ct Tryz.results114 _ _ (w.heap.size + 1) 27 #[.slice q1 (putL E k (wbB (ng E k + n))).length c1] (0, 0) _ (by kernel_rfl) kf Tryz.underlying27 rfl szD _ (by kernel_rfl)
        case hd => rfl
        case hp => (rw [E1.out]; exact ⟨q1, c1, rfl, hef, hbf⟩)
      · have kz : Blk ((w2).alloc (.cells #[.int .u64 0, .int .u64 0, .int .u64 0, .int .u64 0] 31)) (w2).heap.size 31 #[.int .u64 0, .int .u64 0, .int .u64 0, .int .u64 0] := blk1 (w2) 31 #[.int .u64 0, .int .u64 0, .int .u64 0, .int .u64 0]
        have hzl : W.heap.size ≤ (w2).heap.size := hH1.hb.size
        go_simp
        refine hK.out _ _ (hH1.on (BW_alloc (BW_refl _) _)) (fun hH2 => ?_)
        clear hK K
        refine wpAnyH_ready (rs := [4]) (by kernel_rfl) (by simp) ?_
        refine AllReadyH.cons rfl (fun K hK => ?_) AllReadyH.nil
        go_simp
        go_at_call 99
        refine (add_any (ng E k) n hN hn _).mono ?_
        rintro e w4 ⟨rfl, hd4⟩
        rw [hok, (wN_of0 hok).1]
        go_wp2_with fail
        refine hK.out _ _ (hH2.on hd4) (fun hH3 => ?_)
        clear hK K
        replace kz := kz.on hd4
        refine wpAnyH_take (i := 5) (v := .tuple #[.agg #[.int .u64 (limb (ng E k + n) 0), .int .u64 (limb (ng E k + n) 1), .int .u64 (limb (ng E k + n) 2), .int .u64 (limb (ng E k + n) 3)], .bool true]) rfl (by kernel_rfl) (by kernel_rfl) (by kernel_rfl) (fun _ _ _ h => h) (yk_move (by kernel_rfl) _ rfl _ (by kernel_rfl)) hH3 ?_
        refine wpAnyH_take (i := 6) (v := .agg #[.int .u64 (limb (ng E k + n) 0), .int .u64 (limb (ng E k + n) 1), .int .u64 (limb (ng E k + n) 2), .int .u64 (limb (ng E k + n) 3)]) rfl (by kernel_rfl) (by kernel_rfl) (by kernel_rfl) (fun _ _ _ h => h) (yk_ext (by kernel_rfl) _ _ rfl (.tuple #[.agg #[.int .u64 (limb (ng E k + n) 0), .int .u64 (limb (ng E k + n) 1), .int .u64 (limb (ng E k + n) 2), .int .u64 (limb (ng E k + n) 3)], .bool true]) (by kernel_rfl) _ (fun _ _ => rfl)) hH3 ?_
        refine wpAnyH_take (i := 7) (v := .bool true) rfl (by kernel_rfl) (by kernel_rfl) (by kernel_rfl) (fun _ _ _ h => h) (yk_ext (by kernel_rfl) _ _ rfl (.tuple #[.agg #[.int .u64 (limb (ng E k + n) 0), .int .u64 (limb (ng E k + n) 1), .int .u64 (limb (ng E k + n) 2), .int .u64 (limb (ng E k + n) 3)], .bool true]) (by kernel_rfl) _ (fun _ _ => rfl)) hH3 ?_
        refine wpAnyH_ready (rs := [9]) (by kernel_rfl) (by simp) ?_
        refine AllReadyH.cons rfl (fun K hK => ?_) AllReadyH.nil
        rw [if_pos (by kernel_rfl)]
        refine wp_store_mid _ _ _ rfl ((w2).heap.size) 0 [.int .u64 (limb (ng E k + n) 0), .int .u64 (limb (ng E k + n) 1), .int .u64 (limb (ng E k + n) 2), .int .u64 (limb (ng E k + n) 3)].toArray (by kernel_rfl) (by kernel_rfl) (kz.there (Nat.le_refl 4)) szW (one4 _ _ _ _) ?_
        simp only [Act.put, List.getElem_toArray, List.getElem_cons_zero, List.getElem_cons_succ]
        refine hK.out _ _ (hH3.put (ne3 (by omega) (by omega) (by omega)) (by omega) _) (fun hH4 => ?_)
        clear hK K
        refine wpAnyH_take (i := 10) (v := .bool true) rfl (by kernel_rfl) (by kernel_rfl) (by kernel_rfl) (fun _ _ _ h => h) (yk_assign (by kernel_rfl) _ rfl _ (by kernel_rfl)) hH4 ?_
        refine wpAnyH_done (by kernel_rfl) ?_ _
        have hB := hH4.hb
        replace kz := setCells_all kz [.int .u64 (limb (ng E k + n) 0), .int .u64 (limb (ng E k + n) 1), .int .u64 (limb (ng E k + n) 2), .int .u64 (limb (ng E k + n) 3)] rfl
        change Exit.then _ _ _ _ (w4.setCells ((w2).heap.size) 0 [.int .u64 (limb (ng E k + n) 0), .int .u64 (limb (ng E k + n) 1), .int .u64 (limb (ng E k + n) 2), .int .u64 (limb (ng E k + n) 3)])
        generalize hZ : w4.setCells ((w2).heap.size) 0 [.int .u64 (limb (ng E k + n) 0), .int .u64 (limb (ng E k + n) 1), .int .u64 (limb (ng E k + n) 2), .int .u64 (limb (ng E k + n) 3)] = Z at *
        generalize (w2).heap.size = gz at *
        clear hH0 hH1 hH2 hH3 hH4 hd2 hd4 hZ
        have kof := (ko.on hB).drew
        go_upto_region 4 with (fail)
        refine wp_region_held_drew (S := BxS w [(gz, 31, #[.int .u64 (limb (ng E k + n) 0), .int .u64 (limb (ng E k + n) 1), .int .u64 (limb (ng E k + n) 2), .int .u64 (limb (ng E k + n) 3)]), (w.heap.size, 27, #[.slice q E.length cap]), (bk, 9, #[.string k])]) (by kernel_rfl) ((((BxS.nil (BW_on hb0 hB)).cons (hkW.on hB)).cons (kd.on hB)).cons kz).drew (fun hH0 => ?_)
        refine wpAnyH_take (i := 0) (v := .agg #[.slice q E.length cap]) rfl (by kernel_rfl) (by kernel_rfl) (by kernel_rfl) (fun _ _ _ h => h) (yk_load (by kernel_rfl) _ _ rfl (.pointer (some ⟨w.heap.size, 0, none⟩)) (by kernel_rfl) _ (fun w' hw' => by have c0 := (hw'.bl _ (.tail _ (.head _))).cell 0; go_simp)) hH0 ?_
        refine wpAnyH_take (i := 1) (v := .string k) rfl (by kernel_rfl) (by kernel_rfl) (by kernel_rfl) (fun _ _ _ h => h) (yk_load (by kernel_rfl) _ _ rfl (.pointer (some ⟨bk, 0, none⟩)) (by kernel_rfl) _ (fun w' hw' => by have c0 := (hw'.bl _ (.tail _ (.tail _ (.head _)))).cell 0; go_simp)) hH0 ?_
        refine wpAnyH_take (i := 2) (v := .agg #[.int .u64 (limb (ng E k + n) 0), .int .u64 (limb (ng E k + n) 1), .int .u64 (limb (ng E k + n) 2), .int .u64 (limb (ng E k + n) 3)]) rfl (by kernel_rfl) (by kernel_rfl) (by kernel_rfl) (fun _ _ _ h => h) (yk_load (by kernel_rfl) _ _ rfl (.pointer (some ⟨gz, 0, none⟩)) (by kernel_rfl) _ (fun w' hw' => by have c0 := (hw'.bl _ (.head _)).cell 0; have c1 := (hw'.bl _ (.head _)).cell 1; have c2 := (hw'.bl _ (.head _)).cell 2; have c3 := (hw'.bl _ (.head _)).cell 3; go_simp)) hH0 ?_
        refine wpAnyH_ready (rs := [3]) (by kernel_rfl) (by simp) ?_
        refine AllReadyH.cons rfl (fun K hK => ?_) AllReadyH.nil
        go_simp
        go_at_call 95
        refine (bytes_any (ng E k + n) _).mono ?_
        rintro e w3 ⟨rfl, hd3⟩
        go_wp2_with fail
        refine hK.out _ _ (hH0.on hd3) (fun hH1 => ?_)
        clear hK K
        replace kof := kof.on hd3
        refine wpAnyH_ready (rs := [4]) (by kernel_rfl) (by simp) ?_
        refine AllReadyH.cons rfl (fun K hK => ?_) AllReadyH.nil
        go_simp
        go_at_call 30
        refine (put_ok _ E k (wbB (ng E k + n)) _ (hv.on hH1.hb) hs hl hk (wbB_size _)).mono ?_
        rintro e w4 ⟨q1, c1, rfl, hen, hd5⟩
        go_wp2_with fail
        refine hK.out _ _ (hH1.on hd5) (fun hH2 => ?_)
        clear hK K
        replace kof := kof.on hd5
        refine wpAnyH_take (i := 5) (v := .agg #[.slice q1 (putL E k (wbB (ng E k + n))).length c1]) rfl (by kernel_rfl) (by kernel_rfl) (by kernel_rfl) (fun _ _ _ h => h) (yk_ext (by kernel_rfl) _ _ rfl (.tuple #[.agg #[.slice q1 (putL E k (wbB (ng E k + n))).length c1], .int .i64 0]) (by kernel_rfl) _ (fun _ _ => rfl)) hH2 ?_
        refine wpAnyH_take (i := 6) (v := .int .i64 0) rfl (by kernel_rfl) (by kernel_rfl) (by kernel_rfl) (fun _ _ _ h => h) (yk_ext (by kernel_rfl) _ _ rfl (.tuple #[.agg #[.slice q1 (putL E k (wbB (ng E k + n))).length c1], .int .i64 0]) (by kernel_rfl) _ (fun _ _ => rfl)) hH2 ?_
        refine wpAnyH_ready (rs := [7]) (by kernel_rfl) (by simp) ?_
        refine AllReadyH.cons rfl (fun K hK => ?_) AllReadyH.nil
        rw [if_pos (by kernel_rfl)]
        refine wp_store_mid _ _ _ rfl (w.heap.size + 1) 0 [.slice q1 (putL E k (wbB (ng E k + n))).length c1].toArray (by kernel_rfl) (by kernel_rfl) (kof.there (Nat.le_refl 1)) szD (by simp [Value.oneCell']) ?_
        simp only [Act.put, List.getElem_toArray, List.getElem_cons_zero, List.getElem_cons_succ]
        refine hK.out _ _ (hH2.put (ne3 (by omega) (by omega) (by omega)) (by omega) _) (fun hH3 => ?_)
        clear hK K
        refine wpAnyH_take (i := 8) (v := .int .i64 0) rfl (by kernel_rfl) (by kernel_rfl) (by kernel_rfl) (fun _ _ _ h => h) (yk_assign (by kernel_rfl) _ rfl _ (by kernel_rfl)) hH3 ?_
        refine wpAnyH_done (by kernel_rfl) ?_ _
        have hbf := hH3.hb
        have kf := setCells_all kof [.slice q1 (putL E k (wbB (ng E k + n))).length c1] rfl
        have hef := hen.box kof (.slice q1 (putL E k (wbB (ng E k + n))).length c1)
        change Exit.then _ _ _ _ (w4.setCells (w.heap.size + 1) 0 [.slice q1 (putL E k (wbB (ng E k + n))).length c1])
        change Ents (w4.setCells (w.heap.size + 1) 0 [.slice q1 (putL E k (wbB (ng E k + n))).length c1]) _ _ at hef
        generalize w4.setCells (w.heap.size + 1) 0 [.slice q1 (putL E k (wbB (ng E k + n))).length c1] = Y at *
        clear hH0 hH1 hH2 hH3 hd3 hd5 hen kof
        go_wp2_with fail
        refine bodyPost_ret (v := .tuple #[.agg #[.slice q1 (putL E k (wbB (ng E k + n))).length c1], .int .i64 0]) ?hr ?hd ?hp
        case hr => exact results_ct Tryz.results114 _ _ (w.heap.size + 1) 27 #[.slice q1 (putL E k (wbB (ng E k + n))).length c1] (0, 0) _ (by kernel_rfl) kf Tryz.underlying27 rfl szD _ (by kernel_rfl)
        case hd => rfl
        case hp => (rw [E1.out]; exact ⟨q1, c1, rfl, hef, hbf⟩)
    · have kz : Blk ((W.drew).alloc (.cells #[.int .u64 0, .int .u64 0, .int .u64 0, .int .u64 0] 31)) (W).heap.size 31 #[.int .u64 0, .int .u64 0, .int .u64 0, .int .u64 0] := blk1 (W.drew) 31 #[.int .u64 0, .int .u64 0, .int .u64 0, .int .u64 0]
      have hzl : W.heap.size ≤ (W).heap.size := hH0.hb.size
      go_simp
      refine hK.out _ _ (hH0.on (BW_alloc (BW_refl _) _)) (fun hH1 => ?_)
      clear hK K
      refine wpAnyH_ready (rs := [2]) (by kernel_rfl) (by simp) ?_
      refine AllReadyH.cons rfl (fun K hK => ?_) AllReadyH.nil
      go_simp
      go_at_call 93
      refine (bget_any _ E k _ (hvW.on hH1.hb) hs (by omega)).mono ?_
      rintro e w2 ⟨rfl, hd2⟩
      go_wp2_with fail
      refine hK.out _ _ (hH1.on hd2) (fun hH2 => ?_)
      clear hK K
      replace kz := kz.on hd2
      refine wpAnyH_ready (rs := [4]) (by kernel_rfl) (by simp) ?_
      refine AllReadyH.cons rfl (fun K hK => ?_) AllReadyH.nil
      go_simp
      go_at_call 99
      refine (add_any (ng E k) n hN hn _).mono ?_
      rintro e w4 ⟨rfl, hd4⟩
      rw [hok, (wN_of0 hok).1]
      go_wp2_with fail
      refine hK.out _ _ (hH2.on hd4) (fun hH3 => ?_)
      clear hK K
      replace kz := kz.on hd4
      refine wpAnyH_take (i := 5) (v := .tuple #[.agg #[.int .u64 (limb (ng E k + n) 0), .int .u64 (limb (ng E k + n) 1), .int .u64 (limb (ng E k + n) 2), .int .u64 (limb (ng E k + n) 3)], .bool true]) rfl (by kernel_rfl) (by kernel_rfl) (by kernel_rfl) (fun _ _ _ h => h) (yk_move (by kernel_rfl) _ rfl _ (by kernel_rfl)) hH3 ?_
      refine wpAnyH_take (i := 6) (v := .agg #[.int .u64 (limb (ng E k + n) 0), .int .u64 (limb (ng E k + n) 1), .int .u64 (limb (ng E k + n) 2), .int .u64 (limb (ng E k + n) 3)]) rfl (by kernel_rfl) (by kernel_rfl) (by kernel_rfl) (fun _ _ _ h => h) (yk_ext (by kernel_rfl) _ _ rfl (.tuple #[.agg #[.int .u64 (limb (ng E k + n) 0), .int .u64 (limb (ng E k + n) 1), .int .u64 (limb (ng E k + n) 2), .int .u64 (limb (ng E k + n) 3)], .bool true]) (by kernel_rfl) _ (fun _ _ => rfl)) hH3 ?_
      refine wpAnyH_take (i := 7) (v := .bool true) rfl (by kernel_rfl) (by kernel_rfl) (by kernel_rfl) (fun _ _ _ h => h) (yk_ext (by kernel_rfl) _ _ rfl (.tuple #[.agg #[.int .u64 (limb (ng E k + n) 0), .int .u64 (limb (ng E k + n) 1), .int .u64 (limb (ng E k + n) 2), .int .u64 (limb (ng E k + n) 3)], .bool true]) (by kernel_rfl) _ (fun _ _ => rfl)) hH3 ?_
      refine wpAnyH_ready (rs := [9]) (by kernel_rfl) (by simp) ?_
      refine AllReadyH.cons rfl (fun K hK => ?_) AllReadyH.nil
      rw [if_pos (by kernel_rfl)]
      refine wp_store_mid _ _ _ rfl ((W).heap.size) 0 [.int .u64 (limb (ng E k + n) 0), .int .u64 (limb (ng E k + n) 1), .int .u64 (limb (ng E k + n) 2), .int .u64 (limb (ng E k + n) 3)].toArray (by kernel_rfl) (by kernel_rfl) (kz.there (Nat.le_refl 4)) szW (one4 _ _ _ _) ?_
      simp only [Act.put, List.getElem_toArray, List.getElem_cons_zero, List.getElem_cons_succ]
      refine hK.out _ _ (hH3.put (ne3 (by omega) (by omega) (by omega)) (by omega) _) (fun hH4 => ?_)
      clear hK K
      refine wpAnyH_take (i := 10) (v := .bool true) rfl (by kernel_rfl) (by kernel_rfl) (by kernel_rfl) (fun _ _ _ h => h) (yk_assign (by kernel_rfl) _ rfl _ (by kernel_rfl)) hH4 ?_
      refine wpAnyH_done (by kernel_rfl) ?_ _
      have hB := hH4.hb
      replace kz := setCells_all kz [.int .u64 (limb (ng E k + n) 0), .int .u64 (limb (ng E k + n) 1), .int .u64 (limb (ng E k + n) 2), .int .u64 (limb (ng E k + n) 3)] rfl
      change Exit.then _ _ _ _ (w4.setCells ((W).heap.size) 0 [.int .u64 (limb (ng E k + n) 0), .int .u64 (limb (ng E k + n) 1), .int .u64 (limb (ng E k + n) 2), .int .u64 (limb (ng E k + n) 3)])
      generalize hZ : w4.setCells ((W).heap.size) 0 [.int .u64 (limb (ng E k + n) 0), .int .u64 (limb (ng E k + n) 1), .int .u64 (limb (ng E k + n) 2), .int .u64 (limb (ng E k + n) 3)] = Z at *
      have hgz0 := hzl
      clear hH0 hH1 hH2 hH3 hH4 hd2 hd4 hZ
      have kof := (ko.on hB).drew
      go_upto_region 4 with (fail)
      refine wp_region_held_drew (S := BxS w [(W.heap.size, 31, #[.int .u64 (limb (ng E k + n) 0), .int .u64 (limb (ng E k + n) 1), .int .u64 (limb (ng E k + n) 2), .int .u64 (limb (ng E k + n) 3)]), (w.heap.size, 27, #[.slice q E.length cap]), (bk, 9, #[.string k])]) (by kernel_rfl) ((((BxS.nil (BW_on hb0 hB)).cons (hkW.on hB)).cons (kd.on hB)).cons kz).drew (fun hH0 => ?_)
      refine wpAnyH_take (i := 0) (v := .agg #[.slice q E.length cap]) rfl (by kernel_rfl) (by kernel_rfl) (by kernel_rfl) (fun _ _ _ h => h) (yk_load (by kernel_rfl) _ _ rfl (.pointer (some ⟨w.heap.size, 0, none⟩)) (by kernel_rfl) _ (fun w' hw' => by have c0 := (hw'.bl _ (.tail _ (.head _))).cell 0; go_simp)) hH0 ?_
      refine wpAnyH_take (i := 1) (v := .string k) rfl (by kernel_rfl) (by kernel_rfl) (by kernel_rfl) (fun _ _ _ h => h) (yk_load (by kernel_rfl) _ _ rfl (.pointer (some ⟨bk, 0, none⟩)) (by kernel_rfl) _ (fun w' hw' => by have c0 := (hw'.bl _ (.tail _ (.tail _ (.head _)))).cell 0; go_simp)) hH0 ?_
      refine wpAnyH_take (i := 2) (v := .agg #[.int .u64 (limb (ng E k + n) 0), .int .u64 (limb (ng E k + n) 1), .int .u64 (limb (ng E k + n) 2), .int .u64 (limb (ng E k + n) 3)]) rfl (by kernel_rfl) (by kernel_rfl) (by kernel_rfl) (fun _ _ _ h => h) (yk_load (by kernel_rfl) _ _ rfl (.pointer (some ⟨W.heap.size, 0, none⟩)) (by kernel_rfl) _ (fun w' hw' => by have c0 := (hw'.bl _ (.head _)).cell 0; have c1 := (hw'.bl _ (.head _)).cell 1; have c2 := (hw'.bl _ (.head _)).cell 2; have c3 := (hw'.bl _ (.head _)).cell 3; go_simp)) hH0 ?_
      refine wpAnyH_ready (rs := [3]) (by kernel_rfl) (by simp) ?_
      refine AllReadyH.cons rfl (fun K hK => ?_) AllReadyH.nil
      go_simp
      go_at_call 95
      refine (bytes_any (ng E k + n) _).mono ?_
      rintro e w3 ⟨rfl, hd3⟩
      go_wp2_with fail
      refine hK.out _ _ (hH0.on hd3) (fun hH1 => ?_)
      clear hK K
      replace kof := kof.on hd3
      refine wpAnyH_ready (rs := [4]) (by kernel_rfl) (by simp) ?_
      refine AllReadyH.cons rfl (fun K hK => ?_) AllReadyH.nil
      go_simp
      go_at_call 30
      refine (put_ok _ E k (wbB (ng E k + n)) _ (hv.on hH1.hb) hs hl hk (wbB_size _)).mono ?_
      rintro e w4 ⟨q1, c1, rfl, hen, hd5⟩
      go_wp2_with fail
      refine hK.out _ _ (hH1.on hd5) (fun hH2 => ?_)
      clear hK K
      replace kof := kof.on hd5
      refine wpAnyH_take (i := 5) (v := .agg #[.slice q1 (putL E k (wbB (ng E k + n))).length c1]) rfl (by kernel_rfl) (by kernel_rfl) (by kernel_rfl) (fun _ _ _ h => h) (yk_ext (by kernel_rfl) _ _ rfl (.tuple #[.agg #[.slice q1 (putL E k (wbB (ng E k + n))).length c1], .int .i64 0]) (by kernel_rfl) _ (fun _ _ => rfl)) hH2 ?_
      refine wpAnyH_take (i := 6) (v := .int .i64 0) rfl (by kernel_rfl) (by kernel_rfl) (by kernel_rfl) (fun _ _ _ h => h) (yk_ext (by kernel_rfl) _ _ rfl (.tuple #[.agg #[.slice q1 (putL E k (wbB (ng E k + n))).length c1], .int .i64 0]) (by kernel_rfl) _ (fun _ _ => rfl)) hH2 ?_
      refine wpAnyH_ready (rs := [7]) (by kernel_rfl) (by simp) ?_
      refine AllReadyH.cons rfl (fun K hK => ?_) AllReadyH.nil
      rw [if_pos (by kernel_rfl)]
      refine wp_store_mid _ _ _ rfl (w.heap.size + 1) 0 [.slice q1 (putL E k (wbB (ng E k + n))).length c1].toArray (by kernel_rfl) (by kernel_rfl) (kof.there (Nat.le_refl 1)) szD (by simp [Value.oneCell']) ?_
      simp only [Act.put, List.getElem_toArray, List.getElem_cons_zero, List.getElem_cons_succ]
      refine hK.out _ _ (hH2.put (ne3 (by omega) (by omega) (by omega)) (by omega) _) (fun hH3 => ?_)
      clear hK K
      refine wpAnyH_take (i := 8) (v := .int .i64 0) rfl (by kernel_rfl) (by kernel_rfl) (by kernel_rfl) (fun _ _ _ h => h) (yk_assign (by kernel_rfl) _ rfl _ (by kernel_rfl)) hH3 ?_
      refine wpAnyH_done (by kernel_rfl) ?_ _
      have hbf := hH3.hb
      have kf := setCells_all kof [.slice q1 (putL E k (wbB (ng E k + n))).length c1] rfl
      have hef := hen.box kof (.slice q1 (putL E k (wbB (ng E k + n))).length c1)
      change Exit.then _ _ _ _ (w4.setCells (w.heap.size + 1) 0 [.slice q1 (putL E k (wbB (ng E k + n))).length c1])
      change Ents (w4.setCells (w.heap.size + 1) 0 [.slice q1 (putL E k (wbB (ng E k + n))).length c1]) _ _ at hef
      generalize w4.setCells (w.heap.size + 1) 0 [.slice q1 (putL E k (wbB (ng E k + n))).length c1] = Y at *
      clear hH0 hH1 hH2 hH3 hd3 hd5 hen kof
      go_wp2_with fail
      refine bodyPost_ret (v := .tuple #[.agg #[.slice q1 (putL E k (wbB (ng E k + n))).length c1], .int .i64 0]) ?hr ?hd ?hp
      case hr => exact results_ct Tryz.results114 _ _ (w.heap.size + 1) 27 #[.slice q1 (putL E k (wbB (ng E k + n))).length c1] (0, 0) _ (by kernel_rfl) kf Tryz.underlying27 rfl szD _ (by kernel_rfl)
      case hd => rfl
      case hp => (rw [E1.out]; exact ⟨q1, c1, rfl, hef, hbf⟩)
set_option maxHeartbeats 4000000 in
set_option maxRecDepth 100000 in
theorem less1_any (v : Value) (E : List Ent) (k : ByteArray) (n bk bn : Nat) (w : World) (hv : Ents w v E) (hs : Srt E) (hl : E.length ≤ 1900) (hk : k.size ≤ 400) (hn : W256 n) (hbk : Blk w bk 9 #[.string k]) (hbn : Blk w bn 31 #[.int .u64 (limb n 0), .int .u64 (limb n 1), .int .u64 (limb n 2), .int .u64 (limb n 3)]) :
    Calls Tryz.prog 91 #[.agg #[v], .pointer (some ⟨bk, 0, none⟩), .pointer (some ⟨bn, 0, none⟩)] w fun e w' => ∃ q cap, e = .returned (.tuple #[.agg #[.slice q (lessL E k n).2.length cap], .int .i64 (lessL E k n).1]) ∧ Ents w' (.slice q (lessL E k n).2.length cap) (lessL E k n).2 ∧ Below w.heap.size w w' := by
  obtain ⟨q, cap, rfl⟩ := hv.len
  have hN := ng_lt E k
  have hb0 := BW_alloc (BW_alloc (BW_refl w) (.cells #[.slice q E.length cap] 27)) (.cells #[.slice none 0 0] 27)
  have ko := blk2 w (.cells #[.slice q E.length cap] 27) 27 #[.slice none 0 0]
  have kd := (blk1 w 27 #[.slice q E.length cap]).alloc (.cells #[.slice none 0 0] 27)
  have hkW := hbk.on hb0
  have hnW := hbn.on hb0
  have hltk := hbk.lt
  have hltn := hbn.lt
  have hszW := ko.lt
  clear hbk hbn
  go_enter Tryz.func91, Tryz.ntmps91
  go_upto_region 1 with (fail)
  change Code.wp _ _ _ _ ((w.alloc (.cells #[.slice q E.length cap] 27)).alloc (.cells #[.slice none 0 0] 27))
  generalize (w.alloc (.cells #[.slice q E.length cap] 27)).alloc (.cells #[.slice none 0 0] 27) = W at *
  have hvW := hv.on hb0
  by_cases hle : n ≤ ng E k
  · have hNS : W256 (ng E k - n) := hN.sub
    by_cases hz : ng E k - n = 0
    · have e1 : lessL E k n = (0, dropL E k) := by unfold lessL; rw [if_pos hle, hz, set_zero]
      have E1 := Lib.hid e1
      have Hz := Lib.hid hz
      clear e1 hz
      refine wp_region_held_drew (S := BxS W [(w.heap.size, 27, #[.slice q E.length cap]), (bk, 9, #[.string k]), (bn, 31, #[.int .u64 (limb n 0), .int .u64 (limb n 1), .int .u64 (limb n 2), .int .u64 (limb n 3)])]) (by kernel_rfl) ((((BxS.nil (BW_refl W)).cons hnW).cons hkW).cons kd).drew (fun hH0 => ?_)
      refine wpAnyH_take (i := 0) (v := .agg #[.slice q E.length cap]) rfl (by kernel_rfl) (by kernel_rfl) (by kernel_rfl) (fun _ _ _ h => h) (yk_load (by kernel_rfl) _ _ rfl (.pointer (some ⟨w.heap.size, 0, none⟩)) (by kernel_rfl) _ (fun w' hw' => by have c0 := (hw'.bl _ (.head _)).cell 0; go_simp)) hH0 ?_
      refine wpAnyH_take (i := 1) (v := .string k) rfl (by kernel_rfl) (by kernel_rfl) (by kernel_rfl) (fun _ _ _ h => h) (yk_load (by kernel_rfl) _ _ rfl (.pointer (some ⟨bk, 0, none⟩)) (by kernel_rfl) _ (fun w' hw' => by have c0 := (hw'.bl _ (.tail _ (.head _))).cell 0; go_simp)) hH0 ?_
      refine wpAnyH_take (i := 3) (v := .agg #[.int .u64 (limb n 0), .int .u64 (limb n 1), .int .u64 (limb n 2), .int .u64 (limb n 3)]) rfl (by kernel_rfl) (by kernel_rfl) (by kernel_rfl) (fun _ _ _ h => h) (yk_load (by kernel_rfl) _ _ rfl (.pointer (some ⟨bn, 0, none⟩)) (by kernel_rfl) _ (fun w' hw' => by have c0 := (hw'.bl _ (.tail _ (.tail _ (.head _)))).cell 0; have c1 := (hw'.bl _ (.tail _ (.tail _ (.head _)))).cell 1; have c2 := (hw'.bl _ (.tail _ (.tail _ (.head _)))).cell 2; have c3 := (hw'.bl _ (.tail _ (.tail _ (.head _)))).cell 3; go_simp)) hH0 ?_
      refine wpAnyH_ready (rs := [2, 8]) (by kernel_rfl) (by simp) ?_
      refine AllReadyH.cons rfl (fun K hK => ?_) (AllReadyH.cons rfl (fun K hK => ?_) (AllReadyH.nil))
      · go_simp
        go_at_call 93
        refine (bget_any _ E k _ (hvW.on hH0.hb) hs (by omega)).mono ?_
        rintro e w2 ⟨rfl, hd2⟩
        go_wp2_with fail
        refine hK.out _ _ (hH0.on hd2) (fun hH1 => ?_)
        clear hK K
        
        refine wpAnyH_ready (rs := [4, 8]) (by kernel_rfl) (by simp) ?_
        refine AllReadyH.cons rfl (fun K hK => ?_) (AllReadyH.cons rfl (fun K hK => ?_) (AllReadyH.nil))
        · go_simp
          go_at_call 92
          refine (sub_yes (ng E k) n hN hn hle _).mono ?_
          rintro e w4 ⟨rfl, hd4⟩
          
          go_wp2_with fail
          refine hK.out _ _ (hH1.on hd4) (fun hH2 => ?_)
          clear hK K
          
          refine wpAnyH_take (i := 5) (v := .tuple #[.agg #[.int .u64 (limb (ng E k - n) 0), .int .u64 (limb (ng E k - n) 1), .int .u64 (limb (ng E k - n) 2), .int .u64 (limb (ng E k - n) 3)], .bool true]) rfl (by kernel_rfl) (by kernel_rfl) (by kernel_rfl) (fun _ _ _ h => h) (yk_move (by kernel_rfl) _ rfl _ (by kernel_rfl)) hH2 ?_
          refine wpAnyH_take (i := 6) (v := .agg #[.int .u64 (limb (ng E k - n) 0), .int .u64 (limb (ng E k - n) 1), .int .u64 (limb (ng E k - n) 2), .int .u64 (limb (ng E k - n) 3)]) rfl (by kernel_rfl) (by kernel_rfl) (by kernel_rfl) (fun _ _ _ h => h) (yk_ext (by kernel_rfl) _ _ rfl (.tuple #[.agg #[.int .u64 (limb (ng E k - n) 0), .int .u64 (limb (ng E k - n) 1), .int .u64 (limb (ng E k - n) 2), .int .u64 (limb (ng E k - n) 3)], .bool true]) (by kernel_rfl) _ (fun _ _ => rfl)) hH2 ?_
          refine wpAnyH_take (i := 7) (v := .bool true) rfl (by kernel_rfl) (by kernel_rfl) (by kernel_rfl) (fun _ _ _ h => h) (yk_ext (by kernel_rfl) _ _ rfl (.tuple #[.agg #[.int .u64 (limb (ng E k - n) 0), .int .u64 (limb (ng E k - n) 1), .int .u64 (limb (ng E k - n) 2), .int .u64 (limb (ng E k - n) 3)], .bool true]) (by kernel_rfl) _ (fun _ _ => rfl)) hH2 ?_
          have kz : Blk ((w4).alloc (.cells #[.int .u64 0, .int .u64 0, .int .u64 0, .int .u64 0] 31)) (w4).heap.size 31 #[.int .u64 0, .int .u64 0, .int .u64 0, .int .u64 0] := blk1 (w4) 31 #[.int .u64 0, .int .u64 0, .int .u64 0, .int .u64 0]
          have hzl : W.heap.size ≤ (w4).heap.size := hH2.hb.size
          refine wpAnyH_ready (rs := [8]) (by kernel_rfl) (by simp) ?_
          refine AllReadyH.cons rfl (fun K hK => ?_) AllReadyH.nil
          go_simp
          refine hK.out _ _ (hH2.on (BW_alloc (BW_refl _) _)) (fun hH3 => ?_)
          clear hK K
          refine wpAnyH_ready (rs := [9]) (by kernel_rfl) (by simp) ?_
          refine AllReadyH.cons rfl (fun K hK => ?_) AllReadyH.nil
          rw [if_pos (by kernel_rfl)]
          refine wp_store_mid _ _ _ rfl ((w4).heap.size) 0 [.int .u64 (limb (ng E k - n) 0), .int .u64 (limb (ng E k - n) 1), .int .u64 (limb (ng E k - n) 2), .int .u64 (limb (ng E k - n) 3)].toArray (by kernel_rfl) (by kernel_rfl) (kz.there (Nat.le_refl 4)) szW (one4 _ _ _ _) ?_
          simp only [Act.put, List.getElem_toArray, List.getElem_cons_zero, List.getElem_cons_succ]
          refine hK.out _ _ (hH3.put (ne3 (by omega) (by omega) (by omega)) (by omega) _) (fun hH4 => ?_)
          clear hK K
          refine wpAnyH_take (i := 10) (v := .bool true) rfl (by kernel_rfl) (by kernel_rfl) (by kernel_rfl) (fun _ _ _ h => h) (yk_assign (by kernel_rfl) _ rfl _ (by kernel_rfl)) hH4 ?_
          refine wpAnyH_done (by kernel_rfl) ?_ _
          have hB := hH4.hb
          replace kz := setCells_all kz [.int .u64 (limb (ng E k - n) 0), .int .u64 (limb (ng E k - n) 1), .int .u64 (limb (ng E k - n) 2), .int .u64 (limb (ng E k - n) 3)] rfl
          change Exit.then _ _ _ _ ((w4.alloc (.cells #[.int .u64 0, .int .u64 0, .int .u64 0, .int .u64 0] 31)).setCells ((w4).heap.size) 0 [.int .u64 (limb (ng E k - n) 0), .int .u64 (limb (ng E k - n) 1), .int .u64 (limb (ng E k - n) 2), .int .u64 (limb (ng E k - n) 3)])
          generalize hZ : (w4.alloc (.cells #[.int .u64 0, .int .u64 0, .int .u64 0, .int .u64 0] 31)).setCells ((w4).heap.size) 0 [.int .u64 (limb (ng E k - n) 0), .int .u64 (limb (ng E k - n) 1), .int .u64 (limb (ng E k - n) 2), .int .u64 (limb (ng E k - n) 3)] = Z at *
          generalize (w4).heap.size = gz at *
          clear hH0 hH1 hH2 hH3 hH4 hd2 hd4 hZ
          have cz := fun i => kz.cell i
          go_wp2_with fail
          refine (wzero_any (ng E k - n) hNS _).mono ?_
          rintro e w5 ⟨rfl, hb5⟩
          rw [decide_eq_true Hz.out]
          replace hB := BW_on hB hb5
          replace kz := kz.on hb5
          clear cz hb5
          have cd := fun i => (kd.on hB).cell i
          have ck := fun i => (hkW.on hB).cell i
          go_wp2_with fail
          refine (drop_row _ E k _ (hvW.on hB) hs (by omega)).mono ?_
          rintro e w6 ⟨q1, c1, b1, rfl, hen, hb6⟩
          replace hB := BW_on hB hb6
          have k8 := blk1 w6 27 #[.slice q1 (dropL E k).length c1]
          have c8 := fun i => k8.cell i
          have ko7 := (ko.on hB).alloc (.cells #[.slice q1 (dropL E k).length c1] 27)
          have co := fun i => ko7.cell i
          have fo := fun i => ko7.free i
          have hbf := (BW_alloc (BW_on hb0 hB) (.cells #[.slice q1 (dropL E k).length c1] 27)).setCell (p := ⟨w.heap.size + 1, 0, none⟩) (by show w.heap.size ≤ w.heap.size + 1; omega) (.slice q1 (dropL E k).length c1)
          have hef := (hen.on (BW_alloc (BW_refl _) (.cells #[.slice q1 (dropL E k).length c1] 27))).box ko7 (.slice q1 (dropL E k).length c1)
          clear cd ck hb6 hen
          go_wp2_with fail
          have hcc := fun i => (ko7.set_ 0 (.slice q1 (dropL E k).length c1)).cell i
          refine bodyPost_ret (v := .tuple #[.agg #[.slice q1 (dropL E k).length c1], .int .i64 0]) (by simp [results, Tryz.results91, go_sem, hcc]) rfl ?_
          rw [E1.out]
          exact ⟨q1, c1, rfl, hef, hbf⟩
        · have kz : Blk ((w2).alloc (.cells #[.int .u64 0, .int .u64 0, .int .u64 0, .int .u64 0] 31)) (w2).heap.size 31 #[.int .u64 0, .int .u64 0, .int .u64 0, .int .u64 0] := blk1 (w2) 31 #[.int .u64 0, .int .u64 0, .int .u64 0, .int .u64 0]
          have hzl : W.heap.size ≤ (w2).heap.size := hH1.hb.size
          go_simp
          refine hK.out _ _ (hH1.on (BW_alloc (BW_refl _) _)) (fun hH2 => ?_)
          clear hK K
          refine wpAnyH_ready (rs := [4]) (by kernel_rfl) (by simp) ?_
          refine AllReadyH.cons rfl (fun K hK => ?_) AllReadyH.nil
          go_simp
          go_at_call 92
          refine (sub_yes (ng E k) n hN hn hle _).mono ?_
          rintro e w4 ⟨rfl, hd4⟩
          
          go_wp2_with fail
          refine hK.out _ _ (hH2.on hd4) (fun hH3 => ?_)
          clear hK K
          replace kz := kz.on hd4
          refine wpAnyH_take (i := 5) (v := .tuple #[.agg #[.int .u64 (limb (ng E k - n) 0), .int .u64 (limb (ng E k - n) 1), .int .u64 (limb (ng E k - n) 2), .int .u64 (limb (ng E k - n) 3)], .bool true]) rfl (by kernel_rfl) (by kernel_rfl) (by kernel_rfl) (fun _ _ _ h => h) (yk_move (by kernel_rfl) _ rfl _ (by kernel_rfl)) hH3 ?_
          refine wpAnyH_take (i := 6) (v := .agg #[.int .u64 (limb (ng E k - n) 0), .int .u64 (limb (ng E k - n) 1), .int .u64 (limb (ng E k - n) 2), .int .u64 (limb (ng E k - n) 3)]) rfl (by kernel_rfl) (by kernel_rfl) (by kernel_rfl) (fun _ _ _ h => h) (yk_ext (by kernel_rfl) _ _ rfl (.tuple #[.agg #[.int .u64 (limb (ng E k - n) 0), .int .u64 (limb (ng E k - n) 1), .int .u64 (limb (ng E k - n) 2), .int .u64 (limb (ng E k - n) 3)], .bool true]) (by kernel_rfl) _ (fun _ _ => rfl)) hH3 ?_
          refine wpAnyH_take (i := 7) (v := .bool true) rfl (by kernel_rfl) (by kernel_rfl) (by kernel_rfl) (fun _ _ _ h => h) (yk_ext (by kernel_rfl) _ _ rfl (.tuple #[.agg #[.int .u64 (limb (ng E k - n) 0), .int .u64 (limb (ng E k - n) 1), .int .u64 (limb (ng E k - n) 2), .int .u64 (limb (ng E k - n) 3)], .bool true]) (by kernel_rfl) _ (fun _ _ => rfl)) hH3 ?_
          refine wpAnyH_ready (rs := [9]) (by kernel_rfl) (by simp) ?_
          refine AllReadyH.cons rfl (fun K hK => ?_) AllReadyH.nil
          rw [if_pos (by kernel_rfl)]
          refine wp_store_mid _ _ _ rfl ((w2).heap.size) 0 [.int .u64 (limb (ng E k - n) 0), .int .u64 (limb (ng E k - n) 1), .int .u64 (limb (ng E k - n) 2), .int .u64 (limb (ng E k - n) 3)].toArray (by kernel_rfl) (by kernel_rfl) (kz.there (Nat.le_refl 4)) szW (one4 _ _ _ _) ?_
          simp only [Act.put, List.getElem_toArray, List.getElem_cons_zero, List.getElem_cons_succ]
          refine hK.out _ _ (hH3.put (ne3 (by omega) (by omega) (by omega)) (by omega) _) (fun hH4 => ?_)
          clear hK K
          refine wpAnyH_take (i := 10) (v := .bool true) rfl (by kernel_rfl) (by kernel_rfl) (by kernel_rfl) (fun _ _ _ h => h) (yk_assign (by kernel_rfl) _ rfl _ (by kernel_rfl)) hH4 ?_
          refine wpAnyH_done (by kernel_rfl) ?_ _
          have hB := hH4.hb
          replace kz := setCells_all kz [.int .u64 (limb (ng E k - n) 0), .int .u64 (limb (ng E k - n) 1), .int .u64 (limb (ng E k - n) 2), .int .u64 (limb (ng E k - n) 3)] rfl
          change Exit.then _ _ _ _ (w4.setCells ((w2).heap.size) 0 [.int .u64 (limb (ng E k - n) 0), .int .u64 (limb (ng E k - n) 1), .int .u64 (limb (ng E k - n) 2), .int .u64 (limb (ng E k - n) 3)])
          generalize hZ : w4.setCells ((w2).heap.size) 0 [.int .u64 (limb (ng E k - n) 0), .int .u64 (limb (ng E k - n) 1), .int .u64 (limb (ng E k - n) 2), .int .u64 (limb (ng E k - n) 3)] = Z at *
          generalize (w2).heap.size = gz at *
          clear hH0 hH1 hH2 hH3 hH4 hd2 hd4 hZ
          have cz := fun i => kz.cell i
          go_wp2_with fail
          refine (wzero_any (ng E k - n) hNS _).mono ?_
          rintro e w5 ⟨rfl, hb5⟩
          rw [decide_eq_true Hz.out]
          replace hB := BW_on hB hb5
          replace kz := kz.on hb5
          clear cz hb5
          have cd := fun i => (kd.on hB).cell i
          have ck := fun i => (hkW.on hB).cell i
          go_wp2_with fail
          refine (drop_row _ E k _ (hvW.on hB) hs (by omega)).mono ?_
          rintro e w6 ⟨q1, c1, b1, rfl, hen, hb6⟩
          replace hB := BW_on hB hb6
          have k8 := blk1 w6 27 #[.slice q1 (dropL E k).length c1]
          have c8 := fun i => k8.cell i
          have ko7 := (ko.on hB).alloc (.cells #[.slice q1 (dropL E k).length c1] 27)
          have co := fun i => ko7.cell i
          have fo := fun i => ko7.free i
          have hbf := (BW_alloc (BW_on hb0 hB) (.cells #[.slice q1 (dropL E k).length c1] 27)).setCell (p := ⟨w.heap.size + 1, 0, none⟩) (by show w.heap.size ≤ w.heap.size + 1; omega) (.slice q1 (dropL E k).length c1)
          have hef := (hen.on (BW_alloc (BW_refl _) (.cells #[.slice q1 (dropL E k).length c1] 27))).box ko7 (.slice q1 (dropL E k).length c1)
          clear cd ck hb6 hen
          go_wp2_with fail
          have hcc := fun i => (ko7.set_ 0 (.slice q1 (dropL E k).length c1)).cell i
          refine bodyPost_ret (v := .tuple #[.agg #[.slice q1 (dropL E k).length c1], .int .i64 0]) (by simp [results, Tryz.results91, go_sem, hcc]) rfl ?_
          rw [E1.out]
          exact ⟨q1, c1, rfl, hef, hbf⟩
      · have kz : Blk ((W.drew).alloc (.cells #[.int .u64 0, .int .u64 0, .int .u64 0, .int .u64 0] 31)) (W).heap.size 31 #[.int .u64 0, .int .u64 0, .int .u64 0, .int .u64 0] := blk1 (W.drew) 31 #[.int .u64 0, .int .u64 0, .int .u64 0, .int .u64 0]
        have hzl : W.heap.size ≤ (W).heap.size := hH0.hb.size
        go_simp
        refine hK.out _ _ (hH0.on (BW_alloc (BW_refl _) _)) (fun hH1 => ?_)
        clear hK K
        refine wpAnyH_ready (rs := [2]) (by kernel_rfl) (by simp) ?_
        refine AllReadyH.cons rfl (fun K hK => ?_) AllReadyH.nil
        go_simp
        go_at_call 93
        refine (bget_any _ E k _ (hvW.on hH1.hb) hs (by omega)).mono ?_
        rintro e w2 ⟨rfl, hd2⟩
        go_wp2_with fail
        refine hK.out _ _ (hH1.on hd2) (fun hH2 => ?_)
        clear hK K
        replace kz := kz.on hd2
        refine wpAnyH_ready (rs := [4]) (by kernel_rfl) (by simp) ?_
        refine AllReadyH.cons rfl (fun K hK => ?_) AllReadyH.nil
        go_simp
        go_at_call 92
        refine (sub_yes (ng E k) n hN hn hle _).mono ?_
        rintro e w4 ⟨rfl, hd4⟩
        
        go_wp2_with fail
        refine hK.out _ _ (hH2.on hd4) (fun hH3 => ?_)
        clear hK K
        replace kz := kz.on hd4
        refine wpAnyH_take (i := 5) (v := .tuple #[.agg #[.int .u64 (limb (ng E k - n) 0), .int .u64 (limb (ng E k - n) 1), .int .u64 (limb (ng E k - n) 2), .int .u64 (limb (ng E k - n) 3)], .bool true]) rfl (by kernel_rfl) (by kernel_rfl) (by kernel_rfl) (fun _ _ _ h => h) (yk_move (by kernel_rfl) _ rfl _ (by kernel_rfl)) hH3 ?_
        refine wpAnyH_take (i := 6) (v := .agg #[.int .u64 (limb (ng E k - n) 0), .int .u64 (limb (ng E k - n) 1), .int .u64 (limb (ng E k - n) 2), .int .u64 (limb (ng E k - n) 3)]) rfl (by kernel_rfl) (by kernel_rfl) (by kernel_rfl) (fun _ _ _ h => h) (yk_ext (by kernel_rfl) _ _ rfl (.tuple #[.agg #[.int .u64 (limb (ng E k - n) 0), .int .u64 (limb (ng E k - n) 1), .int .u64 (limb (ng E k - n) 2), .int .u64 (limb (ng E k - n) 3)], .bool true]) (by kernel_rfl) _ (fun _ _ => rfl)) hH3 ?_
        refine wpAnyH_take (i := 7) (v := .bool true) rfl (by kernel_rfl) (by kernel_rfl) (by kernel_rfl) (fun _ _ _ h => h) (yk_ext (by kernel_rfl) _ _ rfl (.tuple #[.agg #[.int .u64 (limb (ng E k - n) 0), .int .u64 (limb (ng E k - n) 1), .int .u64 (limb (ng E k - n) 2), .int .u64 (limb (ng E k - n) 3)], .bool true]) (by kernel_rfl) _ (fun _ _ => rfl)) hH3 ?_
        refine wpAnyH_ready (rs := [9]) (by kernel_rfl) (by simp) ?_
        refine AllReadyH.cons rfl (fun K hK => ?_) AllReadyH.nil
        rw [if_pos (by kernel_rfl)]
        refine wp_store_mid _ _ _ rfl ((W).heap.size) 0 [.int .u64 (limb (ng E k - n) 0), .int .u64 (limb (ng E k - n) 1), .int .u64 (limb (ng E k - n) 2), .int .u64 (limb (ng E k - n) 3)].toArray (by kernel_rfl) (by kernel_rfl) (kz.there (Nat.le_refl 4)) szW (one4 _ _ _ _) ?_
        simp only [Act.put, List.getElem_toArray, List.getElem_cons_zero, List.getElem_cons_succ]
        refine hK.out _ _ (hH3.put (ne3 (by omega) (by omega) (by omega)) (by omega) _) (fun hH4 => ?_)
        clear hK K
        refine wpAnyH_take (i := 10) (v := .bool true) rfl (by kernel_rfl) (by kernel_rfl) (by kernel_rfl) (fun _ _ _ h => h) (yk_assign (by kernel_rfl) _ rfl _ (by kernel_rfl)) hH4 ?_
        refine wpAnyH_done (by kernel_rfl) ?_ _
        have hB := hH4.hb
        replace kz := setCells_all kz [.int .u64 (limb (ng E k - n) 0), .int .u64 (limb (ng E k - n) 1), .int .u64 (limb (ng E k - n) 2), .int .u64 (limb (ng E k - n) 3)] rfl
        change Exit.then _ _ _ _ (w4.setCells ((W).heap.size) 0 [.int .u64 (limb (ng E k - n) 0), .int .u64 (limb (ng E k - n) 1), .int .u64 (limb (ng E k - n) 2), .int .u64 (limb (ng E k - n) 3)])
        generalize hZ : w4.setCells ((W).heap.size) 0 [.int .u64 (limb (ng E k - n) 0), .int .u64 (limb (ng E k - n) 1), .int .u64 (limb (ng E k - n) 2), .int .u64 (limb (ng E k - n) 3)] = Z at *
        have hgz0 := hzl
        clear hH0 hH1 hH2 hH3 hH4 hd2 hd4 hZ
        have cz := fun i => kz.cell i
        go_wp2_with fail
        refine (wzero_any (ng E k - n) hNS _).mono ?_
        rintro e w5 ⟨rfl, hb5⟩
        rw [decide_eq_true Hz.out]
        replace hB := BW_on hB hb5
        replace kz := kz.on hb5
        clear cz hb5
        have cd := fun i => (kd.on hB).cell i
        have ck := fun i => (hkW.on hB).cell i
        go_wp2_with fail
        refine (drop_row _ E k _ (hvW.on hB) hs (by omega)).mono ?_
        rintro e w6 ⟨q1, c1, b1, rfl, hen, hb6⟩
        replace hB := BW_on hB hb6
        have k8 := blk1 w6 27 #[.slice q1 (dropL E k).length c1]
        have c8 := fun i => k8.cell i
        have ko7 := (ko.on hB).alloc (.cells #[.slice q1 (dropL E k).length c1] 27)
        have co := fun i => ko7.cell i
        have fo := fun i => ko7.free i
        have hbf := (BW_alloc (BW_on hb0 hB) (.cells #[.slice q1 (dropL E k).length c1] 27)).setCell (p := ⟨w.heap.size + 1, 0, none⟩) (by show w.heap.size ≤ w.heap.size + 1; omega) (.slice q1 (dropL E k).length c1)
        have hef := (hen.on (BW_alloc (BW_refl _) (.cells #[.slice q1 (dropL E k).length c1] 27))).box ko7 (.slice q1 (dropL E k).length c1)
        clear cd ck hb6 hen
        go_wp2_with fail
        have hcc := fun i => (ko7.set_ 0 (.slice q1 (dropL E k).length c1)).cell i
        refine bodyPost_ret (v := .tuple #[.agg #[.slice q1 (dropL E k).length c1], .int .i64 0]) (by simp [results, Tryz.results91, go_sem, hcc]) rfl ?_
        rw [E1.out]
        exact ⟨q1, c1, rfl, hef, hbf⟩
    · have e1 : lessL E k n = (0, putL E k (wbB (ng E k - n))) := by unfold lessL; rw [if_pos hle, set_pos hz]
      have E1 := Lib.hid e1
      have Hz := Lib.hid hz
      clear e1 hz
      refine wp_region_held_drew (S := BxS W [(w.heap.size, 27, #[.slice q E.length cap]), (bk, 9, #[.string k]), (bn, 31, #[.int .u64 (limb n 0), .int .u64 (limb n 1), .int .u64 (limb n 2), .int .u64 (limb n 3)])]) (by kernel_rfl) ((((BxS.nil (BW_refl W)).cons hnW).cons hkW).cons kd).drew (fun hH0 => ?_)
      refine wpAnyH_take (i := 0) (v := .agg #[.slice q E.length cap]) rfl (by kernel_rfl) (by kernel_rfl) (by kernel_rfl) (fun _ _ _ h => h) (yk_load (by kernel_rfl) _ _ rfl (.pointer (some ⟨w.heap.size, 0, none⟩)) (by kernel_rfl) _ (fun w' hw' => by have c0 := (hw'.bl _ (.head _)).cell 0; go_simp)) hH0 ?_
      refine wpAnyH_take (i := 1) (v := .string k) rfl (by kernel_rfl) (by kernel_rfl) (by kernel_rfl) (fun _ _ _ h => h) (yk_load (by kernel_rfl) _ _ rfl (.pointer (some ⟨bk, 0, none⟩)) (by kernel_rfl) _ (fun w' hw' => by have c0 := (hw'.bl _ (.tail _ (.head _))).cell 0; go_simp)) hH0 ?_
      refine wpAnyH_take (i := 3) (v := .agg #[.int .u64 (limb n 0), .int .u64 (limb n 1), .int .u64 (limb n 2), .int .u64 (limb n 3)]) rfl (by kernel_rfl) (by kernel_rfl) (by kernel_rfl) (fun _ _ _ h => h) (yk_load (by kernel_rfl) _ _ rfl (.pointer (some ⟨bn, 0, none⟩)) (by kernel_rfl) _ (fun w' hw' => by have c0 := (hw'.bl _ (.tail _ (.tail _ (.head _)))).cell 0; have c1 := (hw'.bl _ (.tail _ (.tail _ (.head _)))).cell 1; have c2 := (hw'.bl _ (.tail _ (.tail _ (.head _)))).cell 2; have c3 := (hw'.bl _ (.tail _ (.tail _ (.head _)))).cell 3; go_simp)) hH0 ?_
      refine wpAnyH_ready (rs := [2, 8]) (by kernel_rfl) (by simp) ?_
      refine AllReadyH.cons rfl (fun K hK => ?_) (AllReadyH.cons rfl (fun K hK => ?_) (AllReadyH.nil))
      · go_simp
        go_at_call 93
        refine (bget_any _ E k _ (hvW.on hH0.hb) hs (by omega)).mono ?_
        rintro e w2 ⟨rfl, hd2⟩
        go_wp2_with fail
        refine hK.out _ _ (hH0.on hd2) (fun hH1 => ?_)
        clear hK K
        
        refine wpAnyH_ready (rs := [4, 8]) (by kernel_rfl) (by simp) ?_
        refine AllReadyH.cons rfl (fun K hK => ?_) (AllReadyH.cons rfl (fun K hK => ?_) (AllReadyH.nil))
        · go_simp
          go_at_call 92
          refine (sub_yes (ng E k) n hN hn hle _).mono ?_
          rintro e w4 ⟨rfl, hd4⟩
          
          go_wp2_with fail
          refine hK.out _ _ (hH1.on hd4) (fun hH2 => ?_)
          clear hK K
          
          refine wpAnyH_take (i := 5) (v := .tuple #[.agg #[.int .u64 (limb (ng E k - n) 0), .int .u64 (limb (ng E k - n) 1), .int .u64 (limb (ng E k - n) 2), .int .u64 (limb (ng E k - n) 3)], .bool true]) rfl (by kernel_rfl) (by kernel_rfl) (by kernel_rfl) (fun _ _ _ h => h) (yk_move (by kernel_rfl) _ rfl _ (by kernel_rfl)) hH2 ?_
          refine wpAnyH_take (i := 6) (v := .agg #[.int .u64 (limb (ng E k - n) 0), .int .u64 (limb (ng E k - n) 1), .int .u64 (limb (ng E k - n) 2), .int .u64 (limb (ng E k - n) 3)]) rfl (by kernel_rfl) (by kernel_rfl) (by kernel_rfl) (fun _ _ _ h => h) (yk_ext (by kernel_rfl) _ _ rfl (.tuple #[.agg #[.int .u64 (limb (ng E k - n) 0), .int .u64 (limb (ng E k - n) 1), .int .u64 (limb (ng E k - n) 2), .int .u64 (limb (ng E k - n) 3)], .bool true]) (by kernel_rfl) _ (fun _ _ => rfl)) hH2 ?_
          refine wpAnyH_take (i := 7) (v := .bool true) rfl (by kernel_rfl) (by kernel_rfl) (by kernel_rfl) (fun _ _ _ h => h) (yk_ext (by kernel_rfl) _ _ rfl (.tuple #[.agg #[.int .u64 (limb (ng E k - n) 0), .int .u64 (limb (ng E k - n) 1), .int .u64 (limb (ng E k - n) 2), .int .u64 (limb (ng E k - n) 3)], .bool true]) (by kernel_rfl) _ (fun _ _ => rfl)) hH2 ?_
          have kz : Blk ((w4).alloc (.cells #[.int .u64 0, .int .u64 0, .int .u64 0, .int .u64 0] 31)) (w4).heap.size 31 #[.int .u64 0, .int .u64 0, .int .u64 0, .int .u64 0] := blk1 (w4) 31 #[.int .u64 0, .int .u64 0, .int .u64 0, .int .u64 0]
          have hzl : W.heap.size ≤ (w4).heap.size := hH2.hb.size
          refine wpAnyH_ready (rs := [8]) (by kernel_rfl) (by simp) ?_
          refine AllReadyH.cons rfl (fun K hK => ?_) AllReadyH.nil
          go_simp
          refine hK.out _ _ (hH2.on (BW_alloc (BW_refl _) _)) (fun hH3 => ?_)
          clear hK K
          refine wpAnyH_ready (rs := [9]) (by kernel_rfl) (by simp) ?_
          refine AllReadyH.cons rfl (fun K hK => ?_) AllReadyH.nil
          rw [if_pos (by kernel_rfl)]
          refine wp_store_mid _ _ _ rfl ((w4).heap.size) 0 [.int .u64 (limb (ng E k - n) 0), .int .u64 (limb (ng E k - n) 1), .int .u64 (limb (ng E k - n) 2), .int .u64 (limb (ng E k - n) 3)].toArray (by kernel_rfl) (by kernel_rfl) (kz.there (Nat.le_refl 4)) szW (one4 _ _ _ _) ?_
          simp only [Act.put, List.getElem_toArray, List.getElem_cons_zero, List.getElem_cons_succ]
          refine hK.out _ _ (hH3.put (ne3 (by omega) (by omega) (by omega)) (by omega) _) (fun hH4 => ?_)
          clear hK K
          refine wpAnyH_take (i := 10) (v := .bool true) rfl (by kernel_rfl) (by kernel_rfl) (by kernel_rfl) (fun _ _ _ h => h) (yk_assign (by kernel_rfl) _ rfl _ (by kernel_rfl)) hH4 ?_
          refine wpAnyH_done (by kernel_rfl) ?_ _
          have hB := hH4.hb
          replace kz := setCells_all kz [.int .u64 (limb (ng E k - n) 0), .int .u64 (limb (ng E k - n) 1), .int .u64 (limb (ng E k - n) 2), .int .u64 (limb (ng E k - n) 3)] rfl
          change Exit.then _ _ _ _ ((w4.alloc (.cells #[.int .u64 0, .int .u64 0, .int .u64 0, .int .u64 0] 31)).setCells ((w4).heap.size) 0 [.int .u64 (limb (ng E k - n) 0), .int .u64 (limb (ng E k - n) 1), .int .u64 (limb (ng E k - n) 2), .int .u64 (limb (ng E k - n) 3)])
          generalize hZ : (w4.alloc (.cells #[.int .u64 0, .int .u64 0, .int .u64 0, .int .u64 0] 31)).setCells ((w4).heap.size) 0 [.int .u64 (limb (ng E k - n) 0), .int .u64 (limb (ng E k - n) 1), .int .u64 (limb (ng E k - n) 2), .int .u64 (limb (ng E k - n) 3)] = Z at *
          generalize (w4).heap.size = gz at *
          clear hH0 hH1 hH2 hH3 hH4 hd2 hd4 hZ
          have cz := fun i => kz.cell i
          go_wp2_with fail
          refine (wzero_any (ng E k - n) hNS _).mono ?_
          rintro e w5 ⟨rfl, hb5⟩
          rw [decide_eq_false Hz.out]
          replace hB := BW_on hB hb5
          replace kz := kz.on hb5
          clear cz hb5
          have kof := (ko.on hB).drew
          go_upto_region 7 with (fail)
          refine wp_region_held_drew (S := BxS w [(gz, 31, #[.int .u64 (limb (ng E k - n) 0), .int .u64 (limb (ng E k - n) 1), .int .u64 (limb (ng E k - n) 2), .int .u64 (limb (ng E k - n) 3)]), (w.heap.size, 27, #[.slice q E.length cap]), (bk, 9, #[.string k])]) (by kernel_rfl) ((((BxS.nil (BW_on hb0 hB)).cons (hkW.on hB)).cons (kd.on hB)).cons kz).drew (fun hH0 => ?_)
          refine wpAnyH_take (i := 0) (v := .agg #[.slice q E.length cap]) rfl (by kernel_rfl) (by kernel_rfl) (by kernel_rfl) (fun _ _ _ h => h) (yk_load (by kernel_rfl) _ _ rfl (.pointer (some ⟨w.heap.size, 0, none⟩)) (by kernel_rfl) _ (fun w' hw' => by have c0 := (hw'.bl _ (.tail _ (.head _))).cell 0; go_simp)) hH0 ?_
          refine wpAnyH_take (i := 1) (v := .string k) rfl (by kernel_rfl) (by kernel_rfl) (by kernel_rfl) (fun _ _ _ h => h) (yk_load (by kernel_rfl) _ _ rfl (.pointer (some ⟨bk, 0, none⟩)) (by kernel_rfl) _ (fun w' hw' => by have c0 := (hw'.bl _ (.tail _ (.tail _ (.head _)))).cell 0; go_simp)) hH0 ?_
          refine wpAnyH_take (i := 2) (v := .agg #[.int .u64 (limb (ng E k - n) 0), .int .u64 (limb (ng E k - n) 1), .int .u64 (limb (ng E k - n) 2), .int .u64 (limb (ng E k - n) 3)]) rfl (by kernel_rfl) (by kernel_rfl) (by kernel_rfl) (fun _ _ _ h => h) (yk_load (by kernel_rfl) _ _ rfl (.pointer (some ⟨gz, 0, none⟩)) (by kernel_rfl) _ (fun w' hw' => by have c0 := (hw'.bl _ (.head _)).cell 0; have c1 := (hw'.bl _ (.head _)).cell 1; have c2 := (hw'.bl _ (.head _)).cell 2; have c3 := (hw'.bl _ (.head _)).cell 3; go_simp)) hH0 ?_
          refine wpAnyH_ready (rs := [3]) (by kernel_rfl) (by simp) ?_
          refine AllReadyH.cons rfl (fun K hK => ?_) AllReadyH.nil
          go_simp
          go_at_call 95
          refine (bytes_any (ng E k - n) _).mono ?_
          rintro e w3 ⟨rfl, hd3⟩
          go_wp2_with fail
          refine hK.out _ _ (hH0.on hd3) (fun hH1 => ?_)
          clear hK K
          replace kof := kof.on hd3
          refine wpAnyH_ready (rs := [4]) (by kernel_rfl) (by simp) ?_
          refine AllReadyH.cons rfl (fun K hK => ?_) AllReadyH.nil
          go_simp
          go_at_call 30
          refine (put_ok _ E k (wbB (ng E k - n)) _ (hv.on hH1.hb) hs hl hk (wbB_size _)).mono ?_
          rintro e w4 ⟨q1, c1, rfl, hen, hd5⟩
          go_wp2_with fail
          refine hK.out _ _ (hH1.on hd5) (fun hH2 => ?_)
          clear hK K
          replace kof := kof.on hd5
          refine wpAnyH_take (i := 5) (v := .agg #[.slice q1 (putL E k (wbB (ng E k - n))).length c1]) rfl (by kernel_rfl) (by kernel_rfl) (by kernel_rfl) (fun _ _ _ h => h) (yk_ext (by kernel_rfl) _ _ rfl (.tuple #[.agg #[.slice q1 (putL E k (wbB (ng E k - n))).length c1], .int .i64 0]) (by kernel_rfl) _ (fun _ _ => rfl)) hH2 ?_
          refine wpAnyH_take (i := 6) (v := .int .i64 0) rfl (by kernel_rfl) (by kernel_rfl) (by kernel_rfl) (fun _ _ _ h => h) (yk_ext (by kernel_rfl) _ _ rfl (.tuple #[.agg #[.slice q1 (putL E k (wbB (ng E k - n))).length c1], .int .i64 0]) (by kernel_rfl) _ (fun _ _ => rfl)) hH2 ?_
          refine wpAnyH_ready (rs := [7]) (by kernel_rfl) (by simp) ?_
          refine AllReadyH.cons rfl (fun K hK => ?_) AllReadyH.nil
          rw [if_pos (by kernel_rfl)]
          refine wp_store_mid _ _ _ rfl (w.heap.size + 1) 0 [.slice q1 (putL E k (wbB (ng E k - n))).length c1].toArray (by kernel_rfl) (by kernel_rfl) (kof.there (Nat.le_refl 1)) szD (by simp [Value.oneCell']) ?_
          simp only [Act.put, List.getElem_toArray, List.getElem_cons_zero, List.getElem_cons_succ]
          refine hK.out _ _ (hH2.put (ne3 (by omega) (by omega) (by omega)) (by omega) _) (fun hH3 => ?_)
          clear hK K
          refine wpAnyH_take (i := 8) (v := .int .i64 0) rfl (by kernel_rfl) (by kernel_rfl) (by kernel_rfl) (fun _ _ _ h => h) (yk_assign (by kernel_rfl) _ rfl _ (by kernel_rfl)) hH3 ?_
          refine wpAnyH_done (by kernel_rfl) ?_ _
          have hbf := hH3.hb
          have kf := setCells_all kof [.slice q1 (putL E k (wbB (ng E k - n))).length c1] rfl
          have hef := hen.box kof (.slice q1 (putL E k (wbB (ng E k - n))).length c1)
          change Exit.then _ _ _ _ (w4.setCells (w.heap.size + 1) 0 [.slice q1 (putL E k (wbB (ng E k - n))).length c1])
          change Ents (w4.setCells (w.heap.size + 1) 0 [.slice q1 (putL E k (wbB (ng E k - n))).length c1]) _ _ at hef
          generalize w4.setCells (w.heap.size + 1) 0 [.slice q1 (putL E k (wbB (ng E k - n))).length c1] = Y at *
          clear hH0 hH1 hH2 hH3 hd3 hd5 hen kof
          go_wp2_with fail
          refine bodyPost_ret (v := .tuple #[.agg #[.slice q1 (putL E k (wbB (ng E k - n))).length c1], .int .i64 0]) ?hr ?hd ?hp
          case hr => exact results_ct Tryz.results91 _ _ (w.heap.size + 1) 27 #[.slice q1 (putL E k (wbB (ng E k - n))).length c1] (0, 0) _ (by kernel_rfl) kf Tryz.underlying27 rfl szD _ (by kernel_rfl)
          case hd => rfl
          case hp => (rw [E1.out]; exact ⟨q1, c1, rfl, hef, hbf⟩)
        · have kz : Blk ((w2).alloc (.cells #[.int .u64 0, .int .u64 0, .int .u64 0, .int .u64 0] 31)) (w2).heap.size 31 #[.int .u64 0, .int .u64 0, .int .u64 0, .int .u64 0] := blk1 (w2) 31 #[.int .u64 0, .int .u64 0, .int .u64 0, .int .u64 0]
          have hzl : W.heap.size ≤ (w2).heap.size := hH1.hb.size
          go_simp
          refine hK.out _ _ (hH1.on (BW_alloc (BW_refl _) _)) (fun hH2 => ?_)
          clear hK K
          refine wpAnyH_ready (rs := [4]) (by kernel_rfl) (by simp) ?_
          refine AllReadyH.cons rfl (fun K hK => ?_) AllReadyH.nil
          go_simp
          go_at_call 92
          refine (sub_yes (ng E k) n hN hn hle _).mono ?_
          rintro e w4 ⟨rfl, hd4⟩
          
          go_wp2_with fail
          refine hK.out _ _ (hH2.on hd4) (fun hH3 => ?_)
          clear hK K
          replace kz := kz.on hd4
          refine wpAnyH_take (i := 5) (v := .tuple #[.agg #[.int .u64 (limb (ng E k - n) 0), .int .u64 (limb (ng E k - n) 1), .int .u64 (limb (ng E k - n) 2), .int .u64 (limb (ng E k - n) 3)], .bool true]) rfl (by kernel_rfl) (by kernel_rfl) (by kernel_rfl) (fun _ _ _ h => h) (yk_move (by kernel_rfl) _ rfl _ (by kernel_rfl)) hH3 ?_
          refine wpAnyH_take (i := 6) (v := .agg #[.int .u64 (limb (ng E k - n) 0), .int .u64 (limb (ng E k - n) 1), .int .u64 (limb (ng E k - n) 2), .int .u64 (limb (ng E k - n) 3)]) rfl (by kernel_rfl) (by kernel_rfl) (by kernel_rfl) (fun _ _ _ h => h) (yk_ext (by kernel_rfl) _ _ rfl (.tuple #[.agg #[.int .u64 (limb (ng E k - n) 0), .int .u64 (limb (ng E k - n) 1), .int .u64 (limb (ng E k - n) 2), .int .u64 (limb (ng E k - n) 3)], .bool true]) (by kernel_rfl) _ (fun _ _ => rfl)) hH3 ?_
          refine wpAnyH_take (i := 7) (v := .bool true) rfl (by kernel_rfl) (by kernel_rfl) (by kernel_rfl) (fun _ _ _ h => h) (yk_ext (by kernel_rfl) _ _ rfl (.tuple #[.agg #[.int .u64 (limb (ng E k - n) 0), .int .u64 (limb (ng E k - n) 1), .int .u64 (limb (ng E k - n) 2), .int .u64 (limb (ng E k - n) 3)], .bool true]) (by kernel_rfl) _ (fun _ _ => rfl)) hH3 ?_
          refine wpAnyH_ready (rs := [9]) (by kernel_rfl) (by simp) ?_
          refine AllReadyH.cons rfl (fun K hK => ?_) AllReadyH.nil
          rw [if_pos (by kernel_rfl)]
          refine wp_store_mid _ _ _ rfl ((w2).heap.size) 0 [.int .u64 (limb (ng E k - n) 0), .int .u64 (limb (ng E k - n) 1), .int .u64 (limb (ng E k - n) 2), .int .u64 (limb (ng E k - n) 3)].toArray (by kernel_rfl) (by kernel_rfl) (kz.there (Nat.le_refl 4)) szW (one4 _ _ _ _) ?_
          simp only [Act.put, List.getElem_toArray, List.getElem_cons_zero, List.getElem_cons_succ]
          refine hK.out _ _ (hH3.put (ne3 (by omega) (by omega) (by omega)) (by omega) _) (fun hH4 => ?_)
          clear hK K
          refine wpAnyH_take (i := 10) (v := .bool true) rfl (by kernel_rfl) (by kernel_rfl) (by kernel_rfl) (fun _ _ _ h => h) (yk_assign (by kernel_rfl) _ rfl _ (by kernel_rfl)) hH4 ?_
          refine wpAnyH_done (by kernel_rfl) ?_ _
          have hB := hH4.hb
          replace kz := setCells_all kz [.int .u64 (limb (ng E k - n) 0), .int .u64 (limb (ng E k - n) 1), .int .u64 (limb (ng E k - n) 2), .int .u64 (limb (ng E k - n) 3)] rfl
          change Exit.then _ _ _ _ (w4.setCells ((w2).heap.size) 0 [.int .u64 (limb (ng E k - n) 0), .int .u64 (limb (ng E k - n) 1), .int .u64 (limb (ng E k - n) 2), .int .u64 (limb (ng E k - n) 3)])
          generalize hZ : w4.setCells ((w2).heap.size) 0 [.int .u64 (limb (ng E k - n) 0), .int .u64 (limb (ng E k - n) 1), .int .u64 (limb (ng E k - n) 2), .int .u64 (limb (ng E k - n) 3)] = Z at *
          generalize (w2).heap.size = gz at *
          clear hH0 hH1 hH2 hH3 hH4 hd2 hd4 hZ
          have cz := fun i => kz.cell i
          go_wp2_with fail
          refine (wzero_any (ng E k - n) hNS _).mono ?_
          rintro e w5 ⟨rfl, hb5⟩
          rw [decide_eq_false Hz.out]
          replace hB := BW_on hB hb5
          replace kz := kz.on hb5
          clear cz hb5
          have kof := (ko.on hB).drew
          go_upto_region 7 with (fail)
          refine wp_region_held_drew (S := BxS w [(gz, 31, #[.int .u64 (limb (ng E k - n) 0), .int .u64 (limb (ng E k - n) 1), .int .u64 (limb (ng E k - n) 2), .int .u64 (limb (ng E k - n) 3)]), (w.heap.size, 27, #[.slice q E.length cap]), (bk, 9, #[.string k])]) (by kernel_rfl) ((((BxS.nil (BW_on hb0 hB)).cons (hkW.on hB)).cons (kd.on hB)).cons kz).drew (fun hH0 => ?_)
          refine wpAnyH_take (i := 0) (v := .agg #[.slice q E.length cap]) rfl (by kernel_rfl) (by kernel_rfl) (by kernel_rfl) (fun _ _ _ h => h) (yk_load (by kernel_rfl) _ _ rfl (.pointer (some ⟨w.heap.size, 0, none⟩)) (by kernel_rfl) _ (fun w' hw' => by have c0 := (hw'.bl _ (.tail _ (.head _))).cell 0; go_simp)) hH0 ?_
          refine wpAnyH_take (i := 1) (v := .string k) rfl (by kernel_rfl) (by kernel_rfl) (by kernel_rfl) (fun _ _ _ h => h) (yk_load (by kernel_rfl) _ _ rfl (.pointer (some ⟨bk, 0, none⟩)) (by kernel_rfl) _ (fun w' hw' => by have c0 := (hw'.bl _ (.tail _ (.tail _ (.head _)))).cell 0; go_simp)) hH0 ?_
          refine wpAnyH_take (i := 2) (v := .agg #[.int .u64 (limb (ng E k - n) 0), .int .u64 (limb (ng E k - n) 1), .int .u64 (limb (ng E k - n) 2), .int .u64 (limb (ng E k - n) 3)]) rfl (by kernel_rfl) (by kernel_rfl) (by kernel_rfl) (fun _ _ _ h => h) (yk_load (by kernel_rfl) _ _ rfl (.pointer (some ⟨gz, 0, none⟩)) (by kernel_rfl) _ (fun w' hw' => by have c0 := (hw'.bl _ (.head _)).cell 0; have c1 := (hw'.bl _ (.head _)).cell 1; have c2 := (hw'.bl _ (.head _)).cell 2; have c3 := (hw'.bl _ (.head _)).cell 3; go_simp)) hH0 ?_
          refine wpAnyH_ready (rs := [3]) (by kernel_rfl) (by simp) ?_
          refine AllReadyH.cons rfl (fun K hK => ?_) AllReadyH.nil
          go_simp
          go_at_call 95
          refine (bytes_any (ng E k - n) _).mono ?_
          rintro e w3 ⟨rfl, hd3⟩
          go_wp2_with fail
          refine hK.out _ _ (hH0.on hd3) (fun hH1 => ?_)
          clear hK K
          replace kof := kof.on hd3
          refine wpAnyH_ready (rs := [4]) (by kernel_rfl) (by simp) ?_
          refine AllReadyH.cons rfl (fun K hK => ?_) AllReadyH.nil
          go_simp
          go_at_call 30
          refine (put_ok _ E k (wbB (ng E k - n)) _ (hv.on hH1.hb) hs hl hk (wbB_size _)).mono ?_
          rintro e w4 ⟨q1, c1, rfl, hen, hd5⟩
          go_wp2_with fail
          refine hK.out _ _ (hH1.on hd5) (fun hH2 => ?_)
          clear hK K
          replace kof := kof.on hd5
          refine wpAnyH_take (i := 5) (v := .agg #[.slice q1 (putL E k (wbB (ng E k - n))).length c1]) rfl (by kernel_rfl) (by kernel_rfl) (by kernel_rfl) (fun _ _ _ h => h) (yk_ext (by kernel_rfl) _ _ rfl (.tuple #[.agg #[.slice q1 (putL E k (wbB (ng E k - n))).length c1], .int .i64 0]) (by kernel_rfl) _ (fun _ _ => rfl)) hH2 ?_
          refine wpAnyH_take (i := 6) (v := .int .i64 0) rfl (by kernel_rfl) (by kernel_rfl) (by kernel_rfl) (fun _ _ _ h => h) (yk_ext (by kernel_rfl) _ _ rfl (.tuple #[.agg #[.slice q1 (putL E k (wbB (ng E k - n))).length c1], .int .i64 0]) (by kernel_rfl) _ (fun _ _ => rfl)) hH2 ?_
          refine wpAnyH_ready (rs := [7]) (by kernel_rfl) (by simp) ?_
          refine AllReadyH.cons rfl (fun K hK => ?_) AllReadyH.nil
          rw [if_pos (by kernel_rfl)]
          refine wp_store_mid _ _ _ rfl (w.heap.size + 1) 0 [.slice q1 (putL E k (wbB (ng E k - n))).length c1].toArray (by kernel_rfl) (by kernel_rfl) (kof.there (Nat.le_refl 1)) szD (by simp [Value.oneCell']) ?_
          simp only [Act.put, List.getElem_toArray, List.getElem_cons_zero, List.getElem_cons_succ]
          refine hK.out _ _ (hH2.put (ne3 (by omega) (by omega) (by omega)) (by omega) _) (fun hH3 => ?_)
          clear hK K
          refine wpAnyH_take (i := 8) (v := .int .i64 0) rfl (by kernel_rfl) (by kernel_rfl) (by kernel_rfl) (fun _ _ _ h => h) (yk_assign (by kernel_rfl) _ rfl _ (by kernel_rfl)) hH3 ?_
          refine wpAnyH_done (by kernel_rfl) ?_ _
          have hbf := hH3.hb
          have kf := setCells_all kof [.slice q1 (putL E k (wbB (ng E k - n))).length c1] rfl
          have hef := hen.box kof (.slice q1 (putL E k (wbB (ng E k - n))).length c1)
          change Exit.then _ _ _ _ (w4.setCells (w.heap.size + 1) 0 [.slice q1 (putL E k (wbB (ng E k - n))).length c1])
          change Ents (w4.setCells (w.heap.size + 1) 0 [.slice q1 (putL E k (wbB (ng E k - n))).length c1]) _ _ at hef
          generalize w4.setCells (w.heap.size + 1) 0 [.slice q1 (putL E k (wbB (ng E k - n))).length c1] = Y at *
          clear hH0 hH1 hH2 hH3 hd3 hd5 hen kof
          go_wp2_with fail
          refine bodyPost_ret (v := .tuple #[.agg #[.slice q1 (putL E k (wbB (ng E k - n))).length c1], .int .i64 0]) ?hr ?hd ?hp
          case hr => exact results_ct Tryz.results91 _ _ (w.heap.size + 1) 27 #[.slice q1 (putL E k (wbB (ng E k - n))).length c1] (0, 0) _ (by kernel_rfl) kf Tryz.underlying27 rfl szD _ (by kernel_rfl)
          case hd => rfl
          case hp => (rw [E1.out]; exact ⟨q1, c1, rfl, hef, hbf⟩)
      · have kz : Blk ((W.drew).alloc (.cells #[.int .u64 0, .int .u64 0, .int .u64 0, .int .u64 0] 31)) (W).heap.size 31 #[.int .u64 0, .int .u64 0, .int .u64 0, .int .u64 0] := blk1 (W.drew) 31 #[.int .u64 0, .int .u64 0, .int .u64 0, .int .u64 0]
        have hzl : W.heap.size ≤ (W).heap.size := hH0.hb.size
        go_simp
        refine hK.out _ _ (hH0.on (BW_alloc (BW_refl _) _)) (fun hH1 => ?_)
        clear hK K
        refine wpAnyH_ready (rs := [2]) (by kernel_rfl) (by simp) ?_
        refine AllReadyH.cons rfl (fun K hK => ?_) AllReadyH.nil
        go_simp
        go_at_call 93
        refine (bget_any _ E k _ (hvW.on hH1.hb) hs (by omega)).mono ?_
        rintro e w2 ⟨rfl, hd2⟩
        go_wp2_with fail
        refine hK.out _ _ (hH1.on hd2) (fun hH2 => ?_)
        clear hK K
        replace kz := kz.on hd2
        refine wpAnyH_ready (rs := [4]) (by kernel_rfl) (by simp) ?_
        refine AllReadyH.cons rfl (fun K hK => ?_) AllReadyH.nil
        go_simp
        go_at_call 92
        refine (sub_yes (ng E k) n hN hn hle _).mono ?_
        rintro e w4 ⟨rfl, hd4⟩
        
        go_wp2_with fail
        refine hK.out _ _ (hH2.on hd4) (fun hH3 => ?_)
        clear hK K
        replace kz := kz.on hd4
        refine wpAnyH_take (i := 5) (v := .tuple #[.agg #[.int .u64 (limb (ng E k - n) 0), .int .u64 (limb (ng E k - n) 1), .int .u64 (limb (ng E k - n) 2), .int .u64 (limb (ng E k - n) 3)], .bool true]) rfl (by kernel_rfl) (by kernel_rfl) (by kernel_rfl) (fun _ _ _ h => h) (yk_move (by kernel_rfl) _ rfl _ (by kernel_rfl)) hH3 ?_
        refine wpAnyH_take (i := 6) (v := .agg #[.int .u64 (limb (ng E k - n) 0), .int .u64 (limb (ng E k - n) 1), .int .u64 (limb (ng E k - n) 2), .int .u64 (limb (ng E k - n) 3)]) rfl (by kernel_rfl) (by kernel_rfl) (by kernel_rfl) (fun _ _ _ h => h) (yk_ext (by kernel_rfl) _ _ rfl (.tuple #[.agg #[.int .u64 (limb (ng E k - n) 0), .int .u64 (limb (ng E k - n) 1), .int .u64 (limb (ng E k - n) 2), .int .u64 (limb (ng E k - n) 3)], .bool true]) (by kernel_rfl) _ (fun _ _ => rfl)) hH3 ?_
        refine wpAnyH_take (i := 7) (v := .bool true) rfl (by kernel_rfl) (by kernel_rfl) (by kernel_rfl) (fun _ _ _ h => h) (yk_ext (by kernel_rfl) _ _ rfl (.tuple #[.agg #[.int .u64 (limb (ng E k - n) 0), .int .u64 (limb (ng E k - n) 1), .int .u64 (limb (ng E k - n) 2), .int .u64 (limb (ng E k - n) 3)], .bool true]) (by kernel_rfl) _ (fun _ _ => rfl)) hH3 ?_
        refine wpAnyH_ready (rs := [9]) (by kernel_rfl) (by simp) ?_
        refine AllReadyH.cons rfl (fun K hK => ?_) AllReadyH.nil
        rw [if_pos (by kernel_rfl)]
        refine wp_store_mid _ _ _ rfl ((W).heap.size) 0 [.int .u64 (limb (ng E k - n) 0), .int .u64 (limb (ng E k - n) 1), .int .u64 (limb (ng E k - n) 2), .int .u64 (limb (ng E k - n) 3)].toArray (by kernel_rfl) (by kernel_rfl) (kz.there (Nat.le_refl 4)) szW (one4 _ _ _ _) ?_
        simp only [Act.put, List.getElem_toArray, List.getElem_cons_zero, List.getElem_cons_succ]
        refine hK.out _ _ (hH3.put (ne3 (by omega) (by omega) (by omega)) (by omega) _) (fun hH4 => ?_)
        clear hK K
        refine wpAnyH_take (i := 10) (v := .bool true) rfl (by kernel_rfl) (by kernel_rfl) (by kernel_rfl) (fun _ _ _ h => h) (yk_assign (by kernel_rfl) _ rfl _ (by kernel_rfl)) hH4 ?_
        refine wpAnyH_done (by kernel_rfl) ?_ _
        have hB := hH4.hb
        replace kz := setCells_all kz [.int .u64 (limb (ng E k - n) 0), .int .u64 (limb (ng E k - n) 1), .int .u64 (limb (ng E k - n) 2), .int .u64 (limb (ng E k - n) 3)] rfl
        change Exit.then _ _ _ _ (w4.setCells ((W).heap.size) 0 [.int .u64 (limb (ng E k - n) 0), .int .u64 (limb (ng E k - n) 1), .int .u64 (limb (ng E k - n) 2), .int .u64 (limb (ng E k - n) 3)])
        generalize hZ : w4.setCells ((W).heap.size) 0 [.int .u64 (limb (ng E k - n) 0), .int .u64 (limb (ng E k - n) 1), .int .u64 (limb (ng E k - n) 2), .int .u64 (limb (ng E k - n) 3)] = Z at *
        have hgz0 := hzl
        clear hH0 hH1 hH2 hH3 hH4 hd2 hd4 hZ
        have cz := fun i => kz.cell i
        go_wp2_with fail
        refine (wzero_any (ng E k - n) hNS _).mono ?_
        rintro e w5 ⟨rfl, hb5⟩
        rw [decide_eq_false Hz.out]
        replace hB := BW_on hB hb5
        replace kz := kz.on hb5
        clear cz hb5
        have kof := (ko.on hB).drew
        go_upto_region 7 with (fail)
        refine wp_region_held_drew (S := BxS w [(W.heap.size, 31, #[.int .u64 (limb (ng E k - n) 0), .int .u64 (limb (ng E k - n) 1), .int .u64 (limb (ng E k - n) 2), .int .u64 (limb (ng E k - n) 3)]), (w.heap.size, 27, #[.slice q E.length cap]), (bk, 9, #[.string k])]) (by kernel_rfl) ((((BxS.nil (BW_on hb0 hB)).cons (hkW.on hB)).cons (kd.on hB)).cons kz).drew (fun hH0 => ?_)
        refine wpAnyH_take (i := 0) (v := .agg #[.slice q E.length cap]) rfl (by kernel_rfl) (by kernel_rfl) (by kernel_rfl) (fun _ _ _ h => h) (yk_load (by kernel_rfl) _ _ rfl (.pointer (some ⟨w.heap.size, 0, none⟩)) (by kernel_rfl) _ (fun w' hw' => by have c0 := (hw'.bl _ (.tail _ (.head _))).cell 0; go_simp)) hH0 ?_
        refine wpAnyH_take (i := 1) (v := .string k) rfl (by kernel_rfl) (by kernel_rfl) (by kernel_rfl) (fun _ _ _ h => h) (yk_load (by kernel_rfl) _ _ rfl (.pointer (some ⟨bk, 0, none⟩)) (by kernel_rfl) _ (fun w' hw' => by have c0 := (hw'.bl _ (.tail _ (.tail _ (.head _)))).cell 0; go_simp)) hH0 ?_
        refine wpAnyH_take (i := 2) (v := .agg #[.int .u64 (limb (ng E k - n) 0), .int .u64 (limb (ng E k - n) 1), .int .u64 (limb (ng E k - n) 2), .int .u64 (limb (ng E k - n) 3)]) rfl (by kernel_rfl) (by kernel_rfl) (by kernel_rfl) (fun _ _ _ h => h) (yk_load (by kernel_rfl) _ _ rfl (.pointer (some ⟨W.heap.size, 0, none⟩)) (by kernel_rfl) _ (fun w' hw' => by have c0 := (hw'.bl _ (.head _)).cell 0; have c1 := (hw'.bl _ (.head _)).cell 1; have c2 := (hw'.bl _ (.head _)).cell 2; have c3 := (hw'.bl _ (.head _)).cell 3; go_simp)) hH0 ?_
        refine wpAnyH_ready (rs := [3]) (by kernel_rfl) (by simp) ?_
        refine AllReadyH.cons rfl (fun K hK => ?_) AllReadyH.nil
        go_simp
        go_at_call 95
        refine (bytes_any (ng E k - n) _).mono ?_
        rintro e w3 ⟨rfl, hd3⟩
        go_wp2_with fail
        refine hK.out _ _ (hH0.on hd3) (fun hH1 => ?_)
        clear hK K
        replace kof := kof.on hd3
        refine wpAnyH_ready (rs := [4]) (by kernel_rfl) (by simp) ?_
        refine AllReadyH.cons rfl (fun K hK => ?_) AllReadyH.nil
        go_simp
        go_at_call 30
        refine (put_ok _ E k (wbB (ng E k - n)) _ (hv.on hH1.hb) hs hl hk (wbB_size _)).mono ?_
        rintro e w4 ⟨q1, c1, rfl, hen, hd5⟩
        go_wp2_with fail
        refine hK.out _ _ (hH1.on hd5) (fun hH2 => ?_)
        clear hK K
        replace kof := kof.on hd5
        refine wpAnyH_take (i := 5) (v := .agg #[.slice q1 (putL E k (wbB (ng E k - n))).length c1]) rfl (by kernel_rfl) (by kernel_rfl) (by kernel_rfl) (fun _ _ _ h => h) (yk_ext (by kernel_rfl) _ _ rfl (.tuple #[.agg #[.slice q1 (putL E k (wbB (ng E k - n))).length c1], .int .i64 0]) (by kernel_rfl) _ (fun _ _ => rfl)) hH2 ?_
        refine wpAnyH_take (i := 6) (v := .int .i64 0) rfl (by kernel_rfl) (by kernel_rfl) (by kernel_rfl) (fun _ _ _ h => h) (yk_ext (by kernel_rfl) _ _ rfl (.tuple #[.agg #[.slice q1 (putL E k (wbB (ng E k - n))).length c1], .int .i64 0]) (by kernel_rfl) _ (fun _ _ => rfl)) hH2 ?_
        refine wpAnyH_ready (rs := [7]) (by kernel_rfl) (by simp) ?_
        refine AllReadyH.cons rfl (fun K hK => ?_) AllReadyH.nil
        rw [if_pos (by kernel_rfl)]
        refine wp_store_mid _ _ _ rfl (w.heap.size + 1) 0 [.slice q1 (putL E k (wbB (ng E k - n))).length c1].toArray (by kernel_rfl) (by kernel_rfl) (kof.there (Nat.le_refl 1)) szD (by simp [Value.oneCell']) ?_
        simp only [Act.put, List.getElem_toArray, List.getElem_cons_zero, List.getElem_cons_succ]
        refine hK.out _ _ (hH2.put (ne3 (by omega) (by omega) (by omega)) (by omega) _) (fun hH3 => ?_)
        clear hK K
        refine wpAnyH_take (i := 8) (v := .int .i64 0) rfl (by kernel_rfl) (by kernel_rfl) (by kernel_rfl) (fun _ _ _ h => h) (yk_assign (by kernel_rfl) _ rfl _ (by kernel_rfl)) hH3 ?_
        refine wpAnyH_done (by kernel_rfl) ?_ _
        have hbf := hH3.hb
        have kf := setCells_all kof [.slice q1 (putL E k (wbB (ng E k - n))).length c1] rfl
        have hef := hen.box kof (.slice q1 (putL E k (wbB (ng E k - n))).length c1)
        change Exit.then _ _ _ _ (w4.setCells (w.heap.size + 1) 0 [.slice q1 (putL E k (wbB (ng E k - n))).length c1])
        change Ents (w4.setCells (w.heap.size + 1) 0 [.slice q1 (putL E k (wbB (ng E k - n))).length c1]) _ _ at hef
        generalize w4.setCells (w.heap.size + 1) 0 [.slice q1 (putL E k (wbB (ng E k - n))).length c1] = Y at *
        clear hH0 hH1 hH2 hH3 hd3 hd5 hen kof
        go_wp2_with fail
        refine bodyPost_ret (v := .tuple #[.agg #[.slice q1 (putL E k (wbB (ng E k - n))).length c1], .int .i64 0]) ?hr ?hd ?hp
        case hr => exact results_ct Tryz.results91 _ _ (w.heap.size + 1) 27 #[.slice q1 (putL E k (wbB (ng E k - n))).length c1] (0, 0) _ (by kernel_rfl) kf Tryz.underlying27 rfl szD _ (by kernel_rfl)
        case hd => rfl
        case hp => (rw [E1.out]; exact ⟨q1, c1, rfl, hef, hbf⟩)
  · refine wp_region_held_drew (S := BxS W [(w.heap.size, 27, #[.slice q E.length cap]), (bk, 9, #[.string k]), (bn, 31, #[.int .u64 (limb n 0), .int .u64 (limb n 1), .int .u64 (limb n 2), .int .u64 (limb n 3)])]) (by kernel_rfl) ((((BxS.nil (BW_refl W)).cons hnW).cons hkW).cons kd).drew (fun hH0 => ?_)
    refine wpAnyH_take (i := 0) (v := .agg #[.slice q E.length cap]) rfl (by kernel_rfl) (by kernel_rfl) (by kernel_rfl) (fun _ _ _ h => h) (yk_load (by kernel_rfl) _ _ rfl (.pointer (some ⟨w.heap.size, 0, none⟩)) (by kernel_rfl) _ (fun w' hw' => by have c0 := (hw'.bl _ (.head _)).cell 0; go_simp)) hH0 ?_
    refine wpAnyH_take (i := 1) (v := .string k) rfl (by kernel_rfl) (by kernel_rfl) (by kernel_rfl) (fun _ _ _ h => h) (yk_load (by kernel_rfl) _ _ rfl (.pointer (some ⟨bk, 0, none⟩)) (by kernel_rfl) _ (fun w' hw' => by have c0 := (hw'.bl _ (.tail _ (.head _))).cell 0; go_simp)) hH0 ?_
    refine wpAnyH_take (i := 3) (v := .agg #[.int .u64 (limb n 0), .int .u64 (limb n 1), .int .u64 (limb n 2), .int .u64 (limb n 3)]) rfl (by kernel_rfl) (by kernel_rfl) (by kernel_rfl) (fun _ _ _ h => h) (yk_load (by kernel_rfl) _ _ rfl (.pointer (some ⟨bn, 0, none⟩)) (by kernel_rfl) _ (fun w' hw' => by have c0 := (hw'.bl _ (.tail _ (.tail _ (.head _)))).cell 0; have c1 := (hw'.bl _ (.tail _ (.tail _ (.head _)))).cell 1; have c2 := (hw'.bl _ (.tail _ (.tail _ (.head _)))).cell 2; have c3 := (hw'.bl _ (.tail _ (.tail _ (.head _)))).cell 3; go_simp)) hH0 ?_
    refine wpAnyH_ready (rs := [2, 8]) (by kernel_rfl) (by simp) ?_
    refine AllReadyH.cons rfl (fun K hK => ?_) (AllReadyH.cons rfl (fun K hK => ?_) (AllReadyH.nil))
    · go_simp
      go_at_call 93
      refine (bget_any _ E k _ (hvW.on hH0.hb) hs (by omega)).mono ?_
      rintro e w2 ⟨rfl, hd2⟩
      go_wp2_with fail
      refine hK.out _ _ (hH0.on hd2) (fun hH1 => ?_)
      clear hK K
      
      refine wpAnyH_ready (rs := [4, 8]) (by kernel_rfl) (by simp) ?_
      refine AllReadyH.cons rfl (fun K hK => ?_) (AllReadyH.cons rfl (fun K hK => ?_) (AllReadyH.nil))
      · go_simp
        go_at_call 92
        refine (sub_no (ng E k) n hN hn (by omega) _).mono ?_
        rintro e w4 ⟨rfl, hd4⟩
        
        go_wp2_with fail
        refine hK.out _ _ (hH1.on hd4) (fun hH2 => ?_)
        clear hK K
        
        refine wpAnyH_take (i := 5) (v := .tuple #[.agg #[.int .u64 0, .int .u64 0, .int .u64 0, .int .u64 0], .bool false]) rfl (by kernel_rfl) (by kernel_rfl) (by kernel_rfl) (fun _ _ _ h => h) (yk_move (by kernel_rfl) _ rfl _ (by kernel_rfl)) hH2 ?_
        refine wpAnyH_take (i := 6) (v := .agg #[.int .u64 0, .int .u64 0, .int .u64 0, .int .u64 0]) rfl (by kernel_rfl) (by kernel_rfl) (by kernel_rfl) (fun _ _ _ h => h) (yk_ext (by kernel_rfl) _ _ rfl (.tuple #[.agg #[.int .u64 0, .int .u64 0, .int .u64 0, .int .u64 0], .bool false]) (by kernel_rfl) _ (fun _ _ => rfl)) hH2 ?_
        refine wpAnyH_take (i := 7) (v := .bool false) rfl (by kernel_rfl) (by kernel_rfl) (by kernel_rfl) (fun _ _ _ h => h) (yk_ext (by kernel_rfl) _ _ rfl (.tuple #[.agg #[.int .u64 0, .int .u64 0, .int .u64 0, .int .u64 0], .bool false]) (by kernel_rfl) _ (fun _ _ => rfl)) hH2 ?_
        have kz : Blk ((w4).alloc (.cells #[.int .u64 0, .int .u64 0, .int .u64 0, .int .u64 0] 31)) (w4).heap.size 31 #[.int .u64 0, .int .u64 0, .int .u64 0, .int .u64 0] := blk1 (w4) 31 #[.int .u64 0, .int .u64 0, .int .u64 0, .int .u64 0]
        have hzl : W.heap.size ≤ (w4).heap.size := hH2.hb.size
        refine wpAnyH_ready (rs := [8]) (by kernel_rfl) (by simp) ?_
        refine AllReadyH.cons rfl (fun K hK => ?_) AllReadyH.nil
        go_simp
        refine hK.out _ _ (hH2.on (BW_alloc (BW_refl _) _)) (fun hH3 => ?_)
        clear hK K
        refine wpAnyH_ready (rs := [9]) (by kernel_rfl) (by simp) ?_
        refine AllReadyH.cons rfl (fun K hK => ?_) AllReadyH.nil
        rw [if_pos (by kernel_rfl)]
        refine wp_store_mid _ _ _ rfl ((w4).heap.size) 0 [.int .u64 0, .int .u64 0, .int .u64 0, .int .u64 0].toArray (by kernel_rfl) (by kernel_rfl) (kz.there (Nat.le_refl 4)) szW (one4 _ _ _ _) ?_
        simp only [Act.put, List.getElem_toArray, List.getElem_cons_zero, List.getElem_cons_succ]
        refine hK.out _ _ (hH3.put (ne3 (by omega) (by omega) (by omega)) (by omega) _) (fun hH4 => ?_)
        clear hK K
        refine wpAnyH_take (i := 10) (v := .bool false) rfl (by kernel_rfl) (by kernel_rfl) (by kernel_rfl) (fun _ _ _ h => h) (yk_assign (by kernel_rfl) _ rfl _ (by kernel_rfl)) hH4 ?_
        refine wpAnyH_done (by kernel_rfl) ?_ _
        have hB := hH4.hb
        replace kz := setCells_all kz [.int .u64 0, .int .u64 0, .int .u64 0, .int .u64 0] rfl
        change Exit.then _ _ _ _ ((w4.alloc (.cells #[.int .u64 0, .int .u64 0, .int .u64 0, .int .u64 0] 31)).setCells ((w4).heap.size) 0 [.int .u64 0, .int .u64 0, .int .u64 0, .int .u64 0])
        generalize hZ : (w4.alloc (.cells #[.int .u64 0, .int .u64 0, .int .u64 0, .int .u64 0] 31)).setCells ((w4).heap.size) 0 [.int .u64 0, .int .u64 0, .int .u64 0, .int .u64 0] = Z at *
        generalize (w4).heap.size = gz at *
        clear hH0 hH1 hH2 hH3 hH4 hd2 hd4 hZ
        have co := fun i => (ko.on hB).cell i
        have fo := fun i => (ko.on hB).free i
        have hbf := (BW_on hb0 hB).setCell (p := ⟨w.heap.size + 1, 0, none⟩) (by show w.heap.size ≤ w.heap.size + 1; omega) (.slice none 0 0)
        go_wp2_with fail
        have hcc := fun i => ((ko.on hB).set_ 0 (.slice none 0 0)).cell i
        have e1 : lessL E k n = (16, []) := by unfold lessL; rw [if_neg hle]
        refine bodyPost_ret (v := .tuple #[.agg #[.slice none 0 0], .int .i64 16]) (by simp [results, Tryz.results91, go_sem, hcc]) rfl ?_
        rw [e1]
        exact ⟨none, 0, rfl, Ents.nil _, hbf⟩
      · have kz : Blk ((w2).alloc (.cells #[.int .u64 0, .int .u64 0, .int .u64 0, .int .u64 0] 31)) (w2).heap.size 31 #[.int .u64 0, .int .u64 0, .int .u64 0, .int .u64 0] := blk1 (w2) 31 #[.int .u64 0, .int .u64 0, .int .u64 0, .int .u64 0]
        have hzl : W.heap.size ≤ (w2).heap.size := hH1.hb.size
        go_simp
        refine hK.out _ _ (hH1.on (BW_alloc (BW_refl _) _)) (fun hH2 => ?_)
        clear hK K
        refine wpAnyH_ready (rs := [4]) (by kernel_rfl) (by simp) ?_
        refine AllReadyH.cons rfl (fun K hK => ?_) AllReadyH.nil
        go_simp
        go_at_call 92
        refine (sub_no (ng E k) n hN hn (by omega) _).mono ?_
        rintro e w4 ⟨rfl, hd4⟩
        
        go_wp2_with fail
        refine hK.out _ _ (hH2.on hd4) (fun hH3 => ?_)
        clear hK K
        replace kz := kz.on hd4
        refine wpAnyH_take (i := 5) (v := .tuple #[.agg #[.int .u64 0, .int .u64 0, .int .u64 0, .int .u64 0], .bool false]) rfl (by kernel_rfl) (by kernel_rfl) (by kernel_rfl) (fun _ _ _ h => h) (yk_move (by kernel_rfl) _ rfl _ (by kernel_rfl)) hH3 ?_
        refine wpAnyH_take (i := 6) (v := .agg #[.int .u64 0, .int .u64 0, .int .u64 0, .int .u64 0]) rfl (by kernel_rfl) (by kernel_rfl) (by kernel_rfl) (fun _ _ _ h => h) (yk_ext (by kernel_rfl) _ _ rfl (.tuple #[.agg #[.int .u64 0, .int .u64 0, .int .u64 0, .int .u64 0], .bool false]) (by kernel_rfl) _ (fun _ _ => rfl)) hH3 ?_
        refine wpAnyH_take (i := 7) (v := .bool false) rfl (by kernel_rfl) (by kernel_rfl) (by kernel_rfl) (fun _ _ _ h => h) (yk_ext (by kernel_rfl) _ _ rfl (.tuple #[.agg #[.int .u64 0, .int .u64 0, .int .u64 0, .int .u64 0], .bool false]) (by kernel_rfl) _ (fun _ _ => rfl)) hH3 ?_
        refine wpAnyH_ready (rs := [9]) (by kernel_rfl) (by simp) ?_
        refine AllReadyH.cons rfl (fun K hK => ?_) AllReadyH.nil
        rw [if_pos (by kernel_rfl)]
        refine wp_store_mid _ _ _ rfl ((w2).heap.size) 0 [.int .u64 0, .int .u64 0, .int .u64 0, .int .u64 0].toArray (by kernel_rfl) (by kernel_rfl) (kz.there (Nat.le_refl 4)) szW (one4 _ _ _ _) ?_
        simp only [Act.put, List.getElem_toArray, List.getElem_cons_zero, List.getElem_cons_succ]
        refine hK.out _ _ (hH3.put (ne3 (by omega) (by omega) (by omega)) (by omega) _) (fun hH4 => ?_)
        clear hK K
        refine wpAnyH_take (i := 10) (v := .bool false) rfl (by kernel_rfl) (by kernel_rfl) (by kernel_rfl) (fun _ _ _ h => h) (yk_assign (by kernel_rfl) _ rfl _ (by kernel_rfl)) hH4 ?_
        refine wpAnyH_done (by kernel_rfl) ?_ _
        have hB := hH4.hb
        replace kz := setCells_all kz [.int .u64 0, .int .u64 0, .int .u64 0, .int .u64 0] rfl
        change Exit.then _ _ _ _ (w4.setCells ((w2).heap.size) 0 [.int .u64 0, .int .u64 0, .int .u64 0, .int .u64 0])
        generalize hZ : w4.setCells ((w2).heap.size) 0 [.int .u64 0, .int .u64 0, .int .u64 0, .int .u64 0] = Z at *
        generalize (w2).heap.size = gz at *
        clear hH0 hH1 hH2 hH3 hH4 hd2 hd4 hZ
        have co := fun i => (ko.on hB).cell i
        have fo := fun i => (ko.on hB).free i
        have hbf := (BW_on hb0 hB).setCell (p := ⟨w.heap.size + 1, 0, none⟩) (by show w.heap.size ≤ w.heap.size + 1; omega) (.slice none 0 0)
        go_wp2_with fail
        have hcc := fun i => ((ko.on hB).set_ 0 (.slice none 0 0)).cell i
        have e1 : lessL E k n = (16, []) := by unfold lessL; rw [if_neg hle]
        refine bodyPost_ret (v := .tuple #[.agg #[.slice none 0 0], .int .i64 16]) (by simp [results, Tryz.results91, go_sem, hcc]) rfl ?_
        rw [e1]
        exact ⟨none, 0, rfl, Ents.nil _, hbf⟩
    · have kz : Blk ((W.drew).alloc (.cells #[.int .u64 0, .int .u64 0, .int .u64 0, .int .u64 0] 31)) (W).heap.size 31 #[.int .u64 0, .int .u64 0, .int .u64 0, .int .u64 0] := blk1 (W.drew) 31 #[.int .u64 0, .int .u64 0, .int .u64 0, .int .u64 0]
      have hzl : W.heap.size ≤ (W).heap.size := hH0.hb.size
      go_simp
      refine hK.out _ _ (hH0.on (BW_alloc (BW_refl _) _)) (fun hH1 => ?_)
      clear hK K
      refine wpAnyH_ready (rs := [2]) (by kernel_rfl) (by simp) ?_
      refine AllReadyH.cons rfl (fun K hK => ?_) AllReadyH.nil
      go_simp
      go_at_call 93
      refine (bget_any _ E k _ (hvW.on hH1.hb) hs (by omega)).mono ?_
      rintro e w2 ⟨rfl, hd2⟩
      go_wp2_with fail
      refine hK.out _ _ (hH1.on hd2) (fun hH2 => ?_)
      clear hK K
      replace kz := kz.on hd2
      refine wpAnyH_ready (rs := [4]) (by kernel_rfl) (by simp) ?_
      refine AllReadyH.cons rfl (fun K hK => ?_) AllReadyH.nil
      go_simp
      go_at_call 92
      refine (sub_no (ng E k) n hN hn (by omega) _).mono ?_
      rintro e w4 ⟨rfl, hd4⟩
      
      go_wp2_with fail
      refine hK.out _ _ (hH2.on hd4) (fun hH3 => ?_)
      clear hK K
      replace kz := kz.on hd4
      refine wpAnyH_take (i := 5) (v := .tuple #[.agg #[.int .u64 0, .int .u64 0, .int .u64 0, .int .u64 0], .bool false]) rfl (by kernel_rfl) (by kernel_rfl) (by kernel_rfl) (fun _ _ _ h => h) (yk_move (by kernel_rfl) _ rfl _ (by kernel_rfl)) hH3 ?_
      refine wpAnyH_take (i := 6) (v := .agg #[.int .u64 0, .int .u64 0, .int .u64 0, .int .u64 0]) rfl (by kernel_rfl) (by kernel_rfl) (by kernel_rfl) (fun _ _ _ h => h) (yk_ext (by kernel_rfl) _ _ rfl (.tuple #[.agg #[.int .u64 0, .int .u64 0, .int .u64 0, .int .u64 0], .bool false]) (by kernel_rfl) _ (fun _ _ => rfl)) hH3 ?_
      refine wpAnyH_take (i := 7) (v := .bool false) rfl (by kernel_rfl) (by kernel_rfl) (by kernel_rfl) (fun _ _ _ h => h) (yk_ext (by kernel_rfl) _ _ rfl (.tuple #[.agg #[.int .u64 0, .int .u64 0, .int .u64 0, .int .u64 0], .bool false]) (by kernel_rfl) _ (fun _ _ => rfl)) hH3 ?_
      refine wpAnyH_ready (rs := [9]) (by kernel_rfl) (by simp) ?_
      refine AllReadyH.cons rfl (fun K hK => ?_) AllReadyH.nil
      rw [if_pos (by kernel_rfl)]
      refine wp_store_mid _ _ _ rfl ((W).heap.size) 0 [.int .u64 0, .int .u64 0, .int .u64 0, .int .u64 0].toArray (by kernel_rfl) (by kernel_rfl) (kz.there (Nat.le_refl 4)) szW (one4 _ _ _ _) ?_
      simp only [Act.put, List.getElem_toArray, List.getElem_cons_zero, List.getElem_cons_succ]
      refine hK.out _ _ (hH3.put (ne3 (by omega) (by omega) (by omega)) (by omega) _) (fun hH4 => ?_)
      clear hK K
      refine wpAnyH_take (i := 10) (v := .bool false) rfl (by kernel_rfl) (by kernel_rfl) (by kernel_rfl) (fun _ _ _ h => h) (yk_assign (by kernel_rfl) _ rfl _ (by kernel_rfl)) hH4 ?_
      refine wpAnyH_done (by kernel_rfl) ?_ _
      have hB := hH4.hb
      replace kz := setCells_all kz [.int .u64 0, .int .u64 0, .int .u64 0, .int .u64 0] rfl
      change Exit.then _ _ _ _ (w4.setCells ((W).heap.size) 0 [.int .u64 0, .int .u64 0, .int .u64 0, .int .u64 0])
      generalize hZ : w4.setCells ((W).heap.size) 0 [.int .u64 0, .int .u64 0, .int .u64 0, .int .u64 0] = Z at *
      have hgz0 := hzl
      clear hH0 hH1 hH2 hH3 hH4 hd2 hd4 hZ
      have co := fun i => (ko.on hB).cell i
      have fo := fun i => (ko.on hB).free i
      have hbf := (BW_on hb0 hB).setCell (p := ⟨w.heap.size + 1, 0, none⟩) (by show w.heap.size ≤ w.heap.size + 1; omega) (.slice none 0 0)
      go_wp2_with fail
      have hcc := fun i => ((ko.on hB).set_ 0 (.slice none 0 0)).cell i
      have e1 : lessL E k n = (16, []) := by unfold lessL; rw [if_neg hle]
      refine bodyPost_ret (v := .tuple #[.agg #[.slice none 0 0], .int .i64 16]) (by simp [results, Tryz.results91, go_sem, hcc]) rfl ?_
      rw [e1]
      exact ⟨none, 0, rfl, Ents.nil _, hbf⟩
end Go.Proofs.YtpcdgljcpacpiaaGreatDoor
