/- Contracts of the laws of layer 8: the chapter's example; Drop in one sentence. -/
import Derived.Test.YtkahnobignaccaaD12
namespace Go.Proofs.Ytkahnobignaccaa
open Go.RowKit
attribute [local go_sem ↓] Go.wp_at_zero Go.wp_at_succ
theorem Ents.blk {w : World} {g : Nat} {t : TypeId} {E : List Ent} (h : Blk w g t (entV E).toArray) (h0 : 0 < E.length) (hm : E.length ≤ 9223372036854775807) : Ents w (.slice (some ⟨g, 0, none⟩) E.length E.length) E :=
  .inr ⟨h0, g, 0, E.length, rfl, Nat.le_refl _, hm, EntC.of fun j u hj => by rw [Nat.zero_add, h.cell]; simpa using hj⟩
def tA : ByteArray := ⟨#[97]⟩
def tB : ByteArray := ⟨#[98]⟩
def t1 : ByteArray := ⟨#[49]⟩
def t2 : ByteArray := ⟨#[50]⟩
def t3 : ByteArray := ⟨#[51]⟩
theorem awake_of : ofL [(tB, t1), (tA, t2), (tB, t3)] = [(tA, t2), (tB, t3)] := by decide +kernel
set_option maxHeartbeats 1000000 in
theorem awake08_any (w : World) : Calls Try.prog 9 #[] w fun e w' => e = .returned (.bool true) ∧ Below w.heap.size w w' := by
  go_enter Try.func9, Try.ntmps9
  go_wp2_with fail
  have k1 := blk1 w 26 #[.string tB, .string t1, .string tA, .string t2, .string tB, .string t3]
  have e1 : Ents _ _ [(tB, t1), (tA, t2), (tB, t3)] := Ents.blk k1 (by decide) (by decide)
  refine (of_any _ _ _ e1 (by decide)).mono ?_
  rintro e w1 ⟨v1, rfl, hen, hb1⟩
  rw [awake_of] at hen
  have B1 := BW_on (BW_alloc (BW_refl w) (.cells #[.string tB, .string t1, .string tA, .string t2, .string tB, .string t3] 26)) hb1
  clear k1 e1
  obtain ⟨q1, c1, rfl⟩ : ∃ q c, v1 = .slice q 2 c := hen.len
  have kd := blk1 w1 28 #[.slice q1 2 c1]
  have cd := fun i => kd.cell i
  have B2 := BW_alloc B1 (.cells #[.slice q1 2 c1] 28)
  have hen2 := hen.on (BW_alloc (BW_refl w1) (.cells #[.slice q1 2 c1] 28))
  have Hen := Lib.hid hen2
  clear hen hen2
  go_wp2_with fail
  refine (all_any _ _ _ Hen.out (by decide)).mono ?_
  rintro e w2 ⟨v2, rfl, hown, hb2⟩
  have B3 := BW_on B2 hb2
  have hen3 := own_ents hown
  clear hown cd
  have kd3 := (kd.on hb2)
  go_wp2_with fail
  have k4 := blk1 w2 26 #[.string tA, .string t2, .string tB, .string t3]
  have e4 : Ents _ _ [(tA, t2), (tB, t3)] := Ents.blk k4 (by decide) (by decide)
  refine (rsame_any _ _ _ _ _ (hen3.on (BW_alloc (BW_refl w2) _)) e4 (by decide) (by decide)).mono ?_
  rintro e w3 ⟨rfl, hb3⟩
  have B4 := BW_on (BW_alloc B3 _) hb3
  rw [decide_eq_true rfl]
  go_wp2_with fail
  go_ret
  exact ⟨rfl, B4⟩
theorem drop_any (v : Value) (E : List Ent) (k : ByteArray) (w : World) (hv : Ents w v E) (hs : Srt E) (hl : E.length ≤ 2000) :
    Calls Try.prog 18 #[.agg #[v], .string k] w fun e w' => ∃ v', e = .returned (.tuple #[.agg #[v'], .bool (hasK E k)]) ∧ Ents w' v' (dropL E k) ∧ Below w.heap.size w w' := by
  cases hh : hasK E k with
  | true => exact drop_yes v E k w hv hs hl hh
  | false => exact (drop_no v E k w hv hs hl hh).mono fun e w' ⟨he, hb⟩ => ⟨v, he, by rw [drop_none hh]; exact hv.on hb, hb⟩
end Go.Proofs.Ytkahnobignaccaa
