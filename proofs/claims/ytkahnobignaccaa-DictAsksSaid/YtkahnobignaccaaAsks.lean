/- The law DictAsks: a map of texts tells what the document says: for every input. -/
import Derived.Test.YtkahnobignaccaaDa
import Derived.Test.YtkahnobignaccaaDo
namespace Go.Proofs.Ytkahnobignaccaa
open Go.RowKit Go.ChangeShapes Go.WideShapes
theorem asks_any (vl : Value) (L : List Ent) (q0 q1 : ByteArray) (i : Int) (w : World) (hv : Ents w vl L) (hL : L.length ≤ 9223372036854775807) (hi : i < 9223372036854775808) :
    Calls Try.prog 7 #[vl, .agg #[.string q0, .string q1], .int .i64 i] w fun e w' => e = .returned (.bool true) ∧ Below w.heap.size w w' := by
  have hM : (fewL L).length ≤ 20 := by unfold fewL; rw [List.length_map, List.length_take]; omega
  obtain ⟨hs, hl⟩ := ofL_inv (fewL L)
  refine asks_walk vl L (fewL L) (ofL (fewL L)) (((ofL (fewL L)).take (pos (ofL (fewL L)) (sh q1))).drop (pos (ofL (fewL L)) (sh q0))) (underL (ofL (fewL L)) (sh q0)) q0 q1 (sh q0) (sh q1) (gv (ofL (fewL L)) (sh q0)) (atE (ofL (fewL L)) i).1 (atE (ofL (fewL L)) i).2
    (hasK (ofL (fewL L)) (sh q0)) (pos (ofL (fewL L)) (sh q0)) i w hv ?_ ?_ ?_ ?_ ?_ ?_ ?_ ?_ ?_ ?_ ?_ ?_ ?_ ?_ ?_ ?_ ?_ hl ?_ ?_ ?_
  · exact fun w v hv => (few_any v L w hv hL).mono fun e w' ⟨v', he, h, hb⟩ => ⟨v', he, own_ents h, hb⟩
  · exact fun w v hv => of_any v _ w hv (by omega)
  · exact fun w v hv => rof_any v _ w hv (by omega)
  · exact fun w => short_any q0 w
  · exact fun w => short_any q1 w
  · exact fun w v hv => get_any v _ _ w hv hs (by omega)
  · exact fun w v hv => rget_any v _ _ w hv (by omega)
  · exact fun w v hv => find_any v _ _ w hv hs (by omega)
  · exact fun w v hv => rfind_any v _ _ w hv hs (by omega)
  · exact fun w v hv => (all_any v _ w hv (by omega)).mono fun e w' ⟨v', he, h, hb⟩ => ⟨v', he, own_ents h, hb⟩
  · exact fun w v hv => (range_any v _ _ _ w hv hs hl).mono fun e w' ⟨v', he, h, hb⟩ => ⟨v', he, own_ents h, hb⟩
  · exact fun w v hv => (rrange_any v _ _ _ w hv (by omega)).mono fun e w' ⟨v', he, h, hb⟩ => ⟨v', he, by rw [filter_range hs] at h; exact own_ents h, hb⟩
  · exact fun w v hv => (under_any v _ _ w hv hs hl).mono fun e w' ⟨v', he, h, hb⟩ => ⟨v', he, own_ents h, hb⟩
  · exact fun w v hv => (runder_any v _ _ w hv (by omega)).mono fun e w' ⟨v', he, h, hb⟩ => ⟨v', he, by rw [filter_under hs] at h; exact own_ents h, hb⟩
  · exact fun w v hv => at_any v _ i w hv
  · exact fun w v hv => len_any v _ w hv
  · exact fun w v1 v2 F hF h1 h2 => (rsame_any v1 v2 F F w h1 h2 hF hF).mono fun e w' ⟨he, hb⟩ => ⟨by rw [he, decide_eq_true rfl], hb⟩
  · rw [List.length_drop, List.length_take]; omega
  · rw [← filter_under hs]; exact Nat.le_trans (List.length_filter_le _ _) (by omega)
  · by_cases h0 : (0 : Int) ≤ i
    · by_cases h1 : i < ((ofL (fewL L)).length : Int)
      · refine .inr (.inr ⟨i.toNat, by omega, by omega, ?_⟩)
        unfold atE
        rw [if_pos h0, List.getD_eq_getElem?_getD, List.getElem?_eq_getElem (by omega)]
        rfl
      · refine .inr (.inl ⟨h0, h1, ?_, ?_⟩) <;>
        · unfold atE
          rw [if_pos h0, List.getD_eq_getElem?_getD, List.getElem?_eq_none (by omega)]
          rfl
    · refine .inl ⟨h0, ?_, ?_⟩ <;>
      · unfold atE
        rw [if_neg h0]
set_option maxRecDepth 100000 in
theorem asks_lifted (os : Os) (started : os.Started) (H : Type) (enc : TypeId × Value → H) :
    ReturnsInHanded {} Try.checked os 7 .any (Rows.dictAsksSpec.pre6 enc Try.prog Try.f7 Rows.dictAsksRow.domain false) (Rows.dictAsksSpec.post enc Try.prog Try.f7 false true false false) := by
  refine law_lifted (C := Try.checked) (tb := 4) (by kernel_rfl) started (by kernel_rfl) Try.func7
    (ChangeSpec.witness6 (enc := enc) (C := Try.checked) false ⟨#[], #[.slice none 0 0, .agg #[.string ⟨#[]⟩, .string ⟨#[]⟩], .int .i64 0], []⟩ 8 (by kernel_rfl) (by kernel_rfl) (by kernel_rfl) (by kernel_rfl))
    (by kernel_rfl) (by kernel_rfl) (by kernel_rfl) Try.underlying4 rfl ?_ ?_
  · intro ds hd
    have hp : Try.f7.params.toList.length = 3 := by kernel_rfl
    rw [hp] at hd
    match ds, hd with
    | [d, d', d''], _ => rfl
  · intro W base args ds ps hval hA _ _
    have hval' : ∀ (j : Nat) t v, Try.f7.params[j]? = some t → args[j]? = some v → Value.okWide Try.prog W .any base t v := hval
    have hA' : DataW.TrodAll enc Try.prog W 0 (fun _ => true) true Try.f7.params.toList args.toList ds ps := hA
    rw [Try.params7] at hA' hval'
    obtain ⟨v0, v1, v2, d0, d1, d2, p0, p1, p2, rfl, rfl, rfl, h0, h1, h2⟩ := trodAll_three hA'
    obtain ⟨L, hE, hL⟩ := open_ents (hval' 0 23 v0 rfl rfl) h0
    obtain ⟨ss, hs2, rfl⟩ := open_texts (n := 2) Try.underlying61 (by kernel_rfl) (hval' 1 61 v1 rfl rfl) h1
    obtain ⟨z, rfl, _, _, hz⟩ := open_int Try.underlying3 (hval' 2 3 v2 rfl rfl) h2
    match ss, hs2 with
    | [q0, q1], _ =>
      have hz2 : z < 9223372036854775808 := by
        simp [Lit.wf] at hz
        omega
      exact asks_any v0 L q0 q1 z W hE hL hz2
theorem DictAsks_holds : Rows.DictAsksSaid :=
  OpenClaim.holds_of_wide 7 Try.f7 rfl rfl rfl rfl rfl rfl rfl ⟨rfl, rfl, rfl, rfl, rfl⟩ rfl rfl rfl rfl rfl (by kernel_rfl) Try.func7 (by kernel_rfl)
    (of_decide_eq_true (by kernel_rfl)) (by unfold Func.isWrapper; first | (rw [if_pos (by decide +kernel)]; kernel_rfl) | (rw [if_neg (by decide +kernel)]; exact ⟨rfl, rfl⟩))
    (fun os started H enc _ => asks_lifted os started H enc)
end Go.Proofs.Ytkahnobignaccaa
