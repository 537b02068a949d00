/- The law DictLast: what is put is there, all else as it was; what is dropped is not; two maps are the same just if their entries are: for every input. -/
import Derived.Test.YtkahnobignaccaaDb
import Derived.Test.YtkahnobignaccaaDg
import Derived.Test.YtkahnobignaccaaDo
namespace Go.Proofs.Ytkahnobignaccaa
open Go.RowKit Go.ChangeShapes Go.WideShapes
theorem last_any (vl : Value) (L : List Ent) (x0 x1 key : ByteArray) (w : World) (hv : Ents w vl L) (hL : L.length ≤ 9223372036854775807) :
    Calls Try.prog 8 #[vl, .agg #[.string x0, .string x1], .string key] w fun e w' => e = .returned (.bool true) ∧ Below w.heap.size w w' := by
  have hM : (fewL L).length ≤ 20 := by unfold fewL; rw [List.length_map, List.length_take]; omega
  obtain ⟨hs, hl⟩ := ofL_inv (fewL L)
  have h20 := few_len L
  generalize hE : ofL (fewL L) = E at *
  have hk := sh_size x0
  have hx := sh_size x1
  generalize hkk : sh x0 = k at *
  generalize hvv : sh x1 = vv at *
  have hok : putOk E k vv := ⟨by omega, by omega, .inr (by omega)⟩
  have hs2 := put_srt hs k vv
  have hl2 : (putL E k vv).length ≤ 2000 := by have := put_len hs k vv; omega
  have hg2 := get_put hs k vv
  have hh2 : hasK (putL E k vv) k = true := by rw [← get_has, hg2]; rfl
  have hs3 := drop_srt hs2 k
  have hl3 : (dropL (putL E k vv) k).length ≤ 2000 := by have := drop_len hs2 k; omega
  have hg3 := get_drop hs2 k
  have hh3 : hasK (dropL (putL E k vv) k) k = false := by rw [← get_has, hg3]; rfl
  refine last_walk vl L (fewL L) E (putL E k vv) (dropL (putL E k vv) k) x0 x1 key k vv (sh key) (gv (putL E k vv) (sh key)) (gv E (sh key)) (gv (dropL (putL E k vv) k) k) (gv E k) (hasK (putL E k vv) (sh key)) (hasK E (sh key)) (hasK E k) (decide (E = putL E k vv)) (decide (dropL (putL E k vv) k = E)) w hv
    ?_ ?_ ?_ ?_ ?_ ?_ ?_ ?_ ?_ ?_ ?_ ?_ ?_ ?_ ?_ ?_ ?_
  · exact fun w v hv => (few_any v L w hv hL).mono fun e w' ⟨v', he, h, hb⟩ => ⟨v', he, own_ents h, hb⟩
  · exact fun w v hv => (of_any v _ w hv (by omega)).mono fun e w' ⟨v', he, h, hb⟩ => ⟨v', he, hE ▸ h, hb⟩
  · exact fun w => hkk ▸ short_any x0 w
  · exact fun w => hvv ▸ short_any x1 w
  · exact fun w => short_any key w
  · exact fun w v hv => (put_any v E k vv w hv hs hl).mono fun e w' ⟨v', c, he, h, hb⟩ => by
      rcases h with ⟨_, rfl, h⟩ | ⟨h, _⟩
      · exact ⟨v', he, h, hb⟩
      · exact absurd hok h
  · exact fun w v hv => (drop_any v _ k w hv hs2 hl2).mono fun e w' ⟨v', he, h, hb⟩ => ⟨v', by rw [he, hh2], h, hb⟩
  · exact fun w v hv => (get_any v _ k w hv hs2 (by omega)).mono fun e w' ⟨he, hb⟩ => ⟨by rw [he, hh2]; unfold gv; rw [hg2]; rfl, hb⟩
  · exact fun w v hv => get_any v _ _ w hv hs2 (by omega)
  · exact fun w v hv => get_any v _ _ w hv hs (by omega)
  · exact fun w v hv => (get_any v _ k w hv hs3 (by omega)).mono fun e w' ⟨he, hb⟩ => ⟨by rw [he, hh3], hb⟩
  · exact fun w v hv => get_any v _ _ w hv hs (by omega)
  · exact fun w v1 v2 h1 h2 => same_any v1 v2 _ _ w h1 h2 (by omega) (by omega)
  · exact fun w v1 v2 h1 h2 => same_any v1 v2 _ _ w h1 h2 (by omega) (by omega)
  · exact fun w v1 v2 h1 h2 => (same_any v1 v2 _ _ w h1 h2 (by omega) (by omega)).mono fun e w' ⟨he, hb⟩ => ⟨by rw [he, decide_eq_true rfl], hb⟩
  · show _ ∨ _
    rw [beq_kl]
    by_cases ho : sh key = k
    · exact .inl (by simp [ho])
    · refine .inr ⟨by simp [ho], ?_, ?_⟩
      · unfold gv; rw [get_put_ne hs k vv ho]
      · exact has_get (get_put_ne hs k vv ho)
  · show _ ∨ _ ∨ _
    rw [beq_kl]
    cases hw : hasK E k with
    | false =>
      refine .inl ⟨rfl, ?_, ?_⟩
      · rw [decide_eq_false_iff_not, put_same hs, get_none hw]; simp
      · rw [decide_eq_true_eq, drop_put hs]; exact hw
    | true =>
      right
      have h1 : decide (dropL (putL E k vv) k = E) = false := by rw [decide_eq_false_iff_not, drop_put hs, hw]; simp
      obtain ⟨y, hy⟩ : ∃ y, getL E k = some y := Option.isSome_iff_exists.1 (by rw [get_has, hw])
      have hgv : gv E k = y := by unfold gv; rw [hy]; rfl
      by_cases hyv : y = vv
      · refine .inl ⟨rfl, by rw [hgv]; simp [hyv], ?_, h1⟩
        rw [decide_eq_true_eq, put_same hs, hy, hyv]
      · refine .inr ⟨rfl, by rw [hgv]; simp [hyv], ?_, h1⟩
        rw [decide_eq_false_iff_not, put_same hs, hy]
        simp [hyv]
set_option maxRecDepth 100000 in
theorem last_lifted (os : Os) (started : os.Started) (H : Type) (enc : TypeId × Value → H) :
    ReturnsInHanded {} Try.checked os 8 .any (Rows.dictLastSpec.pre6 enc Try.prog Try.f8 Rows.dictLastRow.domain false) (Rows.dictLastSpec.post enc Try.prog Try.f8 false true false false) := by
  refine law_lifted (C := Try.checked) (tb := 4) (by kernel_rfl) started (by kernel_rfl) Try.func8
    (ChangeSpec.witness6 (enc := enc) (C := Try.checked) false ⟨#[], #[.slice none 0 0, .agg #[.string ⟨#[]⟩, .string ⟨#[]⟩], .string ⟨#[]⟩], []⟩ 8 (by kernel_rfl) (by kernel_rfl) (by kernel_rfl) (by kernel_rfl))
    (by kernel_rfl) (by kernel_rfl) (by kernel_rfl) Try.underlying4 rfl ?_ ?_
  · intro ds hd
    have hp : Try.f8.params.toList.length = 3 := by kernel_rfl
    rw [hp] at hd
    match ds, hd with
    | [d, d', d''], _ => rfl
  · intro W base args ds ps hval hA _ _
    have hval' : ∀ (j : Nat) t v, Try.f8.params[j]? = some t → args[j]? = some v → Value.okWide Try.prog W .any base t v := hval
    have hA' : DataW.TrodAll enc Try.prog W 0 (fun _ => true) true Try.f8.params.toList args.toList ds ps := hA
    rw [Try.params8] at hA' hval'
    obtain ⟨v0, v1, v2, d0, d1, d2, p0, p1, p2, rfl, rfl, rfl, h0, h1, h2⟩ := trodAll_three hA'
    obtain ⟨L, hE, hL⟩ := open_ents (hval' 0 23 v0 rfl rfl) h0
    obtain ⟨x0, x1, rfl⟩ := open_entry (hval' 1 26 v1 rfl rfl) h1
    obtain ⟨key, rfl, _⟩ := ChangeMaps.open_string Try.underlying9 (hval' 2 9 v2 rfl rfl) h2
    exact last_any v0 L x0 x1 key W hE hL
theorem DictLast_holds : Rows.DictLastSaid :=
  OpenClaim.holds_of_wide 8 Try.f8 rfl rfl rfl rfl rfl rfl rfl ⟨rfl, rfl, rfl, rfl, rfl⟩ rfl rfl rfl rfl rfl (by kernel_rfl) Try.func8 (by kernel_rfl)
    (of_decide_eq_true (by kernel_rfl)) (by unfold Func.isWrapper; first | (rw [if_pos (by decide +kernel)]; kernel_rfl) | (rw [if_neg (by decide +kernel)]; exact ⟨rfl, rfl⟩))
    (fun os started H enc _ => last_lifted os started H enc)
end Go.Proofs.Ytkahnobignaccaa
