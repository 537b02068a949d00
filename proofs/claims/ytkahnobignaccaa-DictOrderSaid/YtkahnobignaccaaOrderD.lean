/- The law DictOrder: a map hangs on which entries were put last for their keys, not on the order of keys: for every input. -/
import Derived.Test.YtkahnobignaccaaDj
import Derived.Test.YtkahnobignaccaaDo
namespace Go.Proofs.Ytkahnobignaccaa
open Go.RowKit Go.ChangeShapes Go.WideShapes
theorem order_any (vl : Value) (L : List Ent) (twice : Bool) (w : World) (hv : Ents w vl L) (hL : L.length ≤ 9223372036854775807) :
    Calls Try.prog 4 #[vl, .bool twice] w fun e w' => e = .returned (.bool true) ∧ Below w.heap.size w w' := by
  have hM : (fewL L).length ≤ 20 := by unfold fewL; rw [List.length_map, List.length_take]; omega
  obtain ⟨hs, hl⟩ := ofL_inv (fewL L)
  have h20 := few_len L
  have hsm := of_sm (few_sm L)
  generalize hE : ofL (fewL L) = E at *
  have hlen : (E.reverse ++ if twice = true then E else []).length ≤ 40 := by
    rw [List.length_append, List.length_reverse]; split
    · omega
    · rw [List.length_nil]; omega
  have hag : ofL (E.reverse ++ if twice = true then E else []) = E := of_again hs hsm (by omega) fun x => by
    rw [List.mem_append, List.mem_reverse]
    split <;> simp
  have hag2 : ofL E = E := of_again hs hsm (by omega) fun x => Iff.rfl
  refine order_walk vl L (fewL L) E twice w hv ?_ ?_ ?_ ?_ ?_ ?_ ?_ h20
  · exact fun w v hv => (few_any v L w hv hL).mono fun e w' ⟨v', he, h, hb⟩ => ⟨v', he, own_ents h, hb⟩
  · exact fun w v hv => (of_any v _ w hv (by omega)).mono fun e w' ⟨v', he, h, hb⟩ => ⟨v', he, hE ▸ h, hb⟩
  · exact fun w v hv => (all_any v _ w hv (by omega)).mono fun e w' ⟨v', he, h, hb⟩ => ⟨v', he, own_ents h, hb⟩
  · exact fun w v hv => (of_any v _ w hv (by omega)).mono fun e w' ⟨v', he, h, hb⟩ => ⟨v', he, hag ▸ h, hb⟩
  · exact fun w v hv => (of_any v _ w hv (by omega)).mono fun e w' ⟨v', he, h, hb⟩ => ⟨v', he, by rw [hag2] at h; exact h, hb⟩
  · exact fun w v hv => len_any v _ w hv
  · exact fun w v1 v2 h1 h2 => (same_any v1 v2 _ _ w h1 h2 (by omega) (by omega)).mono fun e w' ⟨he, hb⟩ => ⟨by rw [he, decide_eq_true rfl], hb⟩
set_option maxRecDepth 100000 in
theorem order_lifted (os : Os) (started : os.Started) (H : Type) (enc : TypeId × Value → H) :
    ReturnsInHanded {} Try.checked os 4 .any (Rows.dictOrderSpec.pre6 enc Try.prog Try.f4 Rows.dictOrderRow.domain false) (Rows.dictOrderSpec.post enc Try.prog Try.f4 false true false false) := by
  refine law_lifted (C := Try.checked) (tb := 4) (by kernel_rfl) started (by kernel_rfl) Try.func4
    (ChangeSpec.witness6 (enc := enc) (C := Try.checked) false ⟨#[], #[.slice none 0 0, .bool false], []⟩ 8 (by kernel_rfl) (by kernel_rfl) (by kernel_rfl) (by kernel_rfl))
    (by kernel_rfl) (by kernel_rfl) (by kernel_rfl) Try.underlying4 rfl ?_ ?_
  · intro ds hd
    have hp : Try.f4.params.toList.length = 2 := by kernel_rfl
    rw [hp] at hd
    match ds, hd with
    | [d, d'], _ => rfl
  · intro W base args ds ps hval hA _ _
    have hval' : ∀ (j : Nat) t v, Try.f4.params[j]? = some t → args[j]? = some v → Value.okWide Try.prog W .any base t v := hval
    have hA' : DataW.TrodAll enc Try.prog W 0 (fun _ => true) true Try.f4.params.toList args.toList ds ps := hA
    rw [Try.params4] at hA' hval'
    obtain ⟨v0, v1, d0, d1, p0, p1, rfl, rfl, rfl, h0, h1⟩ := trodAll_two hA'
    obtain ⟨L, hE, hL⟩ := open_ents (hval' 0 23 v0 rfl rfl) h0
    obtain ⟨b, rfl, _⟩ := open_bool Try.underlying4 (hval' 1 4 v1 rfl rfl) h1
    exact order_any v0 L b W hE hL
theorem DictOrder_holds : Rows.DictOrderSaid :=
  OpenClaim.holds_of_wide 4 Try.f4 rfl rfl rfl rfl rfl rfl rfl ⟨rfl, rfl, rfl, rfl, rfl⟩ rfl rfl rfl rfl rfl (by kernel_rfl) Try.func4 (by kernel_rfl)
    (of_decide_eq_true (by kernel_rfl)) (by unfold Func.isWrapper; first | (rw [if_pos (by decide +kernel)]; kernel_rfl) | (rw [if_neg (by decide +kernel)]; exact ⟨rfl, rfl⟩))
    (fun os started H enc _ => order_lifted os started H enc)
end Go.Proofs.Ytkahnobignaccaa
