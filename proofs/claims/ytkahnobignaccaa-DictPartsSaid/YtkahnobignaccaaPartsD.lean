/- The law DictParts: what is from one key to another one, and on to a third one, is from the first to the third; below the empty text, it is all: for every input. -/
import Derived.Test.YtkahnobignaccaaDk
import Derived.Test.YtkahnobignaccaaDo
import Derived.Test.YtkahnobignaccaaDg
namespace Go.Proofs.Ytkahnobignaccaa
open Go.RowKit Go.ChangeShapes Go.WideShapes
def rng (E : List Ent) (s t : ByteArray) : List Ent := (E.take (pos E t)).drop (pos E s)
theorem rng_mem {E : List Ent} (hs : Srt E) (a b : ByteArray) (x : Ent) : x ∈ rng E a b ↔ x ∈ E ∧ ¬ klt x.1 a ∧ klt x.1 b := pos_mono hs a b x
theorem rng_app {E : List Ent} (hs : Srt E) {x y z : ByteArray} (h1 : ¬ klt y x) (h2 : ¬ klt z y) : rng E x y ++ rng E y z = rng E x z := by
  refine srt_ext ?_ (range_srt hs x z) fun e => ?_
  · unfold Srt
    rw [List.pairwise_append]
    refine ⟨range_srt hs x y, range_srt hs y z, fun a ha b hb => ?_⟩
    have ha2 := ((rng_mem hs x y a).1 ha).2.2
    have hb2 := ((rng_mem hs y z b).1 hb).2.1
    by_cases h : klt y b.1
    · exact klt_trans ha2 h
    · rw [klt_tri hb2 h]; exact ha2
  · rw [List.mem_append, rng_mem hs, rng_mem hs, rng_mem hs]
    constructor
    · rintro (⟨h, h3, h4⟩ | ⟨h, h3, h4⟩)
      · exact ⟨h, h3, fun_lt h4 h2⟩
      · exact ⟨h, klt_ge_trans h1 h3, h4⟩
    · rintro ⟨h, h3, h4⟩
      by_cases h5 : klt e.1 y
      · exact .inl ⟨h, h3, h5⟩
      · exact .inr ⟨h, h5, h4⟩
where
  fun_lt {a y z : ByteArray} (h : klt a y) (h2 : ¬ klt z y) : klt a z := by
    by_cases h3 : klt y z
    · exact klt_trans h h3
    · rw [klt_tri h2 h3]; exact h
theorem rng_none {E : List Ent} (hs : Srt E) {x z : ByteArray} (h : ¬ klt z x) : rng E z x = [] := by
  rw [List.eq_nil_iff_forall_not_mem]
  intro e he
  obtain ⟨_, h1, h2⟩ := (rng_mem hs z x e).1 he
  exact klt_ge_trans h h1 h2
theorem mem_found {E : List Ent} (hs : Srt E) {e : Ent} (he : e ∈ E) : hasK E e.1 = true ∧ atE E (pos E e.1 : Int) = e := by
  have hh : hasK E e.1 = true := by
    unfold hasK
    rw [List.any_eq_true]
    exact ⟨e, he, by simp⟩
  refine ⟨hh, ?_⟩
  obtain ⟨h1, h2⟩ := (has_iff hs e.1).1 hh
  unfold atE
  rw [if_pos (by omega), List.getD_eq_getElem?_getD, show ((pos E e.1 : Nat) : Int).toNat = pos E e.1 from rfl, List.getElem?_eq_getElem h1]
  exact srt_fun hs _ (List.getElem_mem h1) _ he h2
theorem under_nil {E : List Ent} (hs : Srt E) : underL E ⟨#[]⟩ = E := by
  rw [← filter_under hs, List.filter_eq_self]
  intro x _
  unfold hp Lib.hasPrefix
  simp
theorem parts_any (vl : Value) (L : List Ent) (q0 q1 q2 : ByteArray) (w : World) (hv : Ents w vl L) (hL : L.length ≤ 9223372036854775807) :
    Calls Try.prog 6 #[vl, .agg #[.string q0, .string q1, .string q2]] w fun e w' => e = .returned (.bool true) ∧ Below w.heap.size w w' := by
  have hM : (fewL L).length ≤ 20 := by unfold fewL; rw [List.length_map, List.length_take]; omega
  obtain ⟨hs, hl⟩ := ofL_inv (fewL L)
  have h20 := few_len L
  generalize hE : ofL (fewL L) = E at *
  refine parts_walk vl L (fewL L) E (rng E) q0 q1 q2 (sh q0) (sh q1) (sh q2) w hv ?_ ?_ ?_ ?_ ?_ ?_ ?_ ?_ ?_ ?_ ?_ hl ?_ ?_
  · exact fun w v hv => (few_any v L w hv hL).mono fun e w' ⟨v', he, h, hb⟩ => ⟨v', he, own_ents h, hb⟩
  · exact fun w v hv => (of_any v _ w hv (by omega)).mono fun e w' ⟨v', he, h, hb⟩ => ⟨v', he, hE ▸ h, hb⟩
  · exact fun w => short_any q0 w
  · exact fun w => short_any q1 w
  · exact fun w => short_any q2 w
  · exact fun w v hv => (all_any v _ w hv (by omega)).mono fun e w' ⟨v', he, h, hb⟩ => ⟨v', he, own_ents h, hb⟩
  · exact fun s t w v hv => (range_any v _ _ _ w hv hs hl).mono fun e w' ⟨v', he, h, hb⟩ => ⟨v', he, own_ents h, hb⟩
  · exact fun w v hv => (under_any v _ _ w hv hs hl).mono fun e w' ⟨v', he, h, hb⟩ => ⟨v', he, by rw [under_nil hs] at h; exact own_ents h, hb⟩
  · exact fun k w v hv => find_any v _ k w hv hs (by omega)
  · exact fun i w v hv => at_any v _ i w hv
  · exact fun w v1 v2 F hF h1 h2 => (rsame_any v1 v2 F F w h1 h2 hF hF).mono fun e w' ⟨he, hb⟩ => ⟨by rw [he, decide_eq_true rfl], hb⟩
  · exact fun s t => by unfold rng; rw [List.length_drop, List.length_take]; omega
  · exact fun x y z h1 h2 => ⟨rng_app hs h1 h2, rng_none hs (klt_ge_trans h1 h2), fun k hk => by
      have hm := (rng_mem hs x z _).1 (List.getElem_mem hk)
      obtain ⟨f1, f2⟩ := mem_found hs hm.1
      exact ⟨f1, f2, hm.2.1, hm.2.2⟩⟩
set_option maxRecDepth 100000 in
theorem parts_lifted (os : Os) (started : os.Started) (H : Type) (enc : TypeId × Value → H) :
    ReturnsInHanded {} Try.checked os 6 .any (Rows.dictPartsSpec.pre6 enc Try.prog Try.f6 Rows.dictPartsRow.domain false) (Rows.dictPartsSpec.post enc Try.prog Try.f6 false true false false) := by
  refine law_lifted (C := Try.checked) (tb := 4) (by kernel_rfl) started (by kernel_rfl) Try.func6
    (ChangeSpec.witness6 (enc := enc) (C := Try.checked) false ⟨#[], #[.slice none 0 0, .agg #[.string ⟨#[]⟩, .string ⟨#[]⟩, .string ⟨#[]⟩]], []⟩ 8 (by kernel_rfl) (by kernel_rfl) (by kernel_rfl) (by kernel_rfl))
    (by kernel_rfl) (by kernel_rfl) (by kernel_rfl) Try.underlying4 rfl ?_ ?_
  · intro ds hd
    have hp : Try.f6.params.toList.length = 2 := by kernel_rfl
    rw [hp] at hd
    match ds, hd with
    | [d, d'], _ => rfl
  · intro W base args ds ps hval hA _ _
    have hval' : ∀ (j : Nat) t v, Try.f6.params[j]? = some t → args[j]? = some v → Value.okWide Try.prog W .any base t v := hval
    have hA' : DataW.TrodAll enc Try.prog W 0 (fun _ => true) true Try.f6.params.toList args.toList ds ps := hA
    rw [Try.params6] at hA' hval'
    obtain ⟨v0, v1, d0, d1, p0, p1, rfl, rfl, rfl, h0, h1⟩ := trodAll_two hA'
    obtain ⟨L, hE, hL⟩ := open_ents (hval' 0 23 v0 rfl rfl) h0
    obtain ⟨ss, hs2, rfl⟩ := open_texts (n := 3) Try.underlying54 (by kernel_rfl) (hval' 1 54 v1 rfl rfl) h1
    match ss, hs2 with
    | [q0, q1, q2], _ => exact parts_any v0 L q0 q1 q2 W hE hL
theorem DictParts_holds : Rows.DictPartsSaid :=
  OpenClaim.holds_of_wide 6 Try.f6 rfl rfl rfl rfl rfl rfl rfl ⟨rfl, rfl, rfl, rfl, rfl⟩ rfl rfl rfl rfl rfl (by kernel_rfl) Try.func6 (by kernel_rfl)
    (of_decide_eq_true (by kernel_rfl)) (by unfold Func.isWrapper; first | (rw [if_pos (by decide +kernel)]; kernel_rfl) | (rw [if_neg (by decide +kernel)]; exact ⟨rfl, rfl⟩))
    (fun os started H enc _ => parts_lifted os started H enc)
end Go.Proofs.Ytkahnobignaccaa
