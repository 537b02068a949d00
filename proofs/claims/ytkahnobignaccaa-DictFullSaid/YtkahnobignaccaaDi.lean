/- A row of entries appended to a row of the call's own. -/
import Derived.Test.YtkahnobignaccaaD13
import Derived.Test.YtkahnobignaccaaKitD
import Derived.Deep.AppendSrc
namespace Go.Proofs.Ytkahnobignaccaa
open Go.RowKit
theorem app_nil_nil (w : World) (ty : TypeId) (c : Nat) : (Builtin.append_ #[23, 23] ty #[.slice none 0 0, .slice none 0 c]).run Try.prog w = .ok (.slice none 0 0) w := by
  obtain ⟨i0, hi0, hz0, hz1, hz2⟩ := info_parts infoE
  have h1 := run_firstCells_none (P := Try.prog) w 2 0 0 c
  simp [Builtin.append_, run_underlying (P := Try.prog) Try.underlying23, sizeOf, typeInfo, hi0, hz1, Builtin.lenOf, h1]
theorem app_ents (base : Nat) (v : Value) (n : Nat) (xs : List Value) (u : Value) (E : List Ent) (w : World) (ty : TypeId) (hown : w.ownsRow base 26 2 v n xs) (hu : Ents w u E) (hl : n + E.length ≤ 1000000) (hbase : base ≤ w.heap.size) :
    ∃ v' w', (Builtin.append_ #[23, 23] ty #[v, u]).run Try.prog w = .ok v' w' ∧ w'.ownsRow base 26 2 v' (n + E.length) (xs ++ entV E) ∧ Below base w w' := by
  obtain ⟨i0, hi0, hz0, hz1, hz2⟩ := info_parts infoE
  have key : ∀ (a : Addr) (c : Nat), u = .slice (some a) E.length c → (∀ j x, (entV E)[j]? = some x → w.cell? (a.add j) = some x) → ∃ v' w', (Builtin.append_ #[23, 23] ty #[v, u]).run Try.prog w = .ok v' w' ∧ w'.ownsRow base 26 2 v' (n + E.length) (xs ++ entV E) ∧ Below base w w' := by
    rintro a c rfl hc
    obtain ⟨v', w', h1, h2, h3, _⟩ := run_append_own (P := Try.prog) w base 23 ty 26 i0 _ 2 32 Try.underlying23 hi0 hz0 hz1 hz2 rfl (by decide) v n xs hown a E.length c (entV E) (entV_len E) hc (entV_one E) (by unfold maxLen; omega) (by omega) hbase
    exact ⟨v', w', h1, h2, (Below.refl base w).grown h3 hbase (fun k hk => (hown.lt k hk).1)⟩
  rcases hu with ⟨rfl, q, cap, rfl, _⟩ | ⟨h0, g, off, cap, rfl, hc1, hc2, hent⟩
  · cases q with
    | some a => exact key a cap rfl (fun j x h => by simp [entV] at h)
    | none =>
      have hown2 := hown
      rcases hown.2 with ⟨rfl, rfl⟩ | ⟨g, c, cur, rfl, hb, hg, hrest⟩
      · refine ⟨_, w, app_nil_nil w ty cap, ?_, Below.refl _ _⟩
        simpa [entV] using hown2
      · refine ⟨.slice (some ⟨g, 0, none⟩) n c, w, ?_, ?_, Below.refl _ _⟩
        · have hnc : n + 0 ≤ c := by
            have := hrest
            omega
          have h2 := run_append_room_src (P := Try.prog) w 23 23 ty 26 i0 Try.underlying23 hi0 g 0 n c (.slice none 0 cap) 0 [] (Src.ofNil w Try.underlying23 cap) hnc (by simp) (by simp)
          simpa [World.setCells] using h2
        · simpa [entV] using hown2
  · refine key ⟨g, off, none⟩ cap rfl (fun j x hx => ?_)
    rw [addr_add]
    exact hent.cells j x hx
end Go.Proofs.Ytkahnobignaccaa
