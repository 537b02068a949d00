/- Rows of one-cell elements that the call owns, two or more side by side: an append onto one leaves the others. Of no program. -/
import Derived.Test.YtbimnfmjgmfijaaDoorOb
namespace Go.Proofs.YtbimnfmjgmfijaaDoor
open Go.RowKit
def own2 (w : World) (base : Nat) (e : TypeId) (v : Value) (n : Nat) (xs : List Value) : Prop := (v = .slice none 0 0 ∧ n = 0 ∧ xs = []) ∨ ownB w base e v n xs
theorem own2.nil (w : World) (base : Nat) (e : TypeId) : own2 w base e (.slice none 0 0) 0 [] := .inl ⟨rfl, rfl, rfl⟩
theorem ownB.block {w : World} {base : Nat} {e : TypeId} {v : Value} {n : Nat} {xs : List Value} (h : ownB w base e v n xs) : ∃ g, v.ownBlock = some g ∧ base ≤ g ∧ g < w.heap.size := by
  obtain ⟨g, cap, rfl, h1, h2, _⟩ := h.form
  exact ⟨g, rfl, h1, h2⟩
theorem ownB.grown {w w' : World} {base : Nat} {e : TypeId} {v : Value} {n : Nat} {xs : List Value} {r : Option Nat} (h : ownB w base e v n xs) (hg : w.grownBy w' r) (hne : r ≠ v.ownBlock) : ownB w' base e v n xs := by
  obtain ⟨g0, hb0, _, hlt⟩ := h.block
  obtain ⟨h1, g, cap, cur, fz, rfl, h2, h3, h4⟩ := h
  simp only [Value.ownBlock, Option.some.injEq] at hb0
  subst hb0
  exact ⟨h1, g, cap, cur, fz, rfl, h2, by rw [hg.block g hlt (by intro e; exact hne (by rw [← e]; rfl)), h3], h4⟩
theorem own2.grown {w w' : World} {base : Nat} {e : TypeId} {v : Value} {n : Nat} {xs : List Value} {r : Option Nat} (h : own2 w base e v n xs) (hg : w.grownBy w' r) (hne : r = none ∨ r ≠ v.ownBlock) : own2 w' base e v n xs := by
  rcases h with h | h
  · exact .inl h
  · refine .inr (h.grown hg ?_)
    rcases hne with hr | hr
    · obtain ⟨g, hb, _⟩ := h.block
      rw [hr, hb]; simp
    · exact hr
theorem own2.form {w : World} {base : Nat} {e : TypeId} {v : Value} {n : Nat} {xs : List Value} (h : own2 w base e v n xs) (hn : 0 < n) : ownB w base e v n xs := by
  rcases h with ⟨_, h, _⟩ | h
  · omega
  · exact h
theorem own2.ne {w : World} {base2 : Nat} {e2 : TypeId} {v v' v2 : Value} {n2 : Nat} {xs2 : List Value} (hv' : v'.ownBlock = v.ownBlock ∨ ∃ g, v'.ownBlock = some g ∧ w.heap.size ≤ g) (h2 : own2 w base2 e2 v2 n2 xs2) (hne : v.ownBlock = none ∨ v.ownBlock ≠ v2.ownBlock) : v'.ownBlock = none ∨ v'.ownBlock ≠ v2.ownBlock := by
  rcases hv' with h | ⟨g, h, hg⟩
  · rw [h]; exact hne
  · refine .inr ?_
    rw [h]
    rcases h2 with ⟨rfl, _⟩ | h2
    · simp [Value.ownBlock]
    · obtain ⟨g2, hb, _, hlt⟩ := h2.block
      rw [hb]
      intro e
      cases e
      omega
theorem wpList_push2 {P : Program} {ops : Array Oper} {rest : List Oper} {o : Oper} {a : Act} {Q : Exit → Act → World → Prop} {w : World} (hgd : o.guard = none) (s x : Operand) (t : TypeId)
    (ho : o.op = .call { callee := .builtin .append, args := #[s, x], argTypes := #[t, t] })
    (base : Nat) (e : TypeId) (i : TypeInfo) (z : Value) (bytes : Nat) (ht : P.underlying t = some (.slice e)) (hi : P.info? e = some i) (hz : i.zero = some z)
    (hsize : i.size = 1) (hby : i.bytes = bytes) (hzs : z.cells.size = 1)
    (v : Value) (n : Nat) (xs : List Value) (hs : a.eval s = v) (hown : own2 w base e v n xs)
    (u : Value) (b : Nat) (hx : a.eval x = .slice (some ⟨b, 0, none⟩) 1 1) (hb : b = w.heap.size) (h1 : u.oneCell' = true)
    (h63 : n + 1 ≤ maxLen) (hbytes : (n + 1) * bytes ≤ 140737488355328) (hbase : base ≤ w.heap.size)
    (h : ∀ v' w', own2 w' base e v' (n + 1) (xs ++ [u]) → w.grownBy w' v.ownBlock → (v'.ownBlock = v.ownBlock ∨ ∃ g, v'.ownBlock = some g ∧ w.heap.size ≤ g) → wpList P ops Q rest (a.put o.dst v') w') :
    wpList P ops Q (o :: rest) a (w.alloc (.cells #[u] e)) := by
  subst hb
  refine wpList_plain hgd fun K hK => ?_
  have hnews : ∀ j u', ([u] : List Value)[j]? = some u' → (w.alloc (.cells #[u] e)).cell? ((⟨w.heap.size, 0, none⟩ : Addr).add j) = some u' := fun j u' hu => by
    have e1 : (⟨w.heap.size, 0, none⟩ : Addr).add j = ⟨w.heap.size, j, none⟩ := by unfold Addr.add; split <;> simp_all
    rw [e1, World.cell?_alloc_mark]
    simpa using hu
  have hone : ∀ u' ∈ [u], u'.oneCell' = true := fun u' hu => by simp at hu; rw [hu]; exact h1
  have hga : w.grownBy (w.alloc (.cells #[u] e)) v.ownBlock := World.grownBy_alloc w _ _
  have key : ∃ v' w', (Builtin.append_ #[t, t] o.type #[v, .slice (some ⟨w.heap.size, 0, none⟩) 1 1]).run P (w.alloc (.cells #[u] e)) = .ok v' w' ∧ own2 w' base e v' (n + 1) (xs ++ [u]) ∧ (w.alloc (.cells #[u] e)).grownBy w' v.ownBlock ∧ (v'.ownBlock = v.ownBlock ∨ ∃ g, v'.ownBlock = some g ∧ w.heap.size ≤ g) := by
    rcases hown with ⟨rfl, rfl, rfl⟩ | hown
    · obtain ⟨v', w', r1, r2, r3, _⟩ := run_append_own (P := P) (w.alloc (.cells #[u] e)) w.heap.size t o.type e i z 1 bytes ht hi hz hsize hby hzs (by decide) (.slice none 0 0) 0 [] (World.ownsRow_nil _ _ _ _) ⟨w.heap.size, 0, none⟩ 1 1 [u] rfl hnews hone h63 hbytes (by simp)
      rcases r2.2 with ⟨_, hbad⟩ | ⟨g, cap, cur, rfl, hg, hh, q1, q2, q3, q4⟩
      · cases hbad
      · refine ⟨_, w', r1, .inr ⟨by simp, g, cap, cur, (0, 0), rfl, Nat.le_trans hbase hg, hh, .inl rfl, q1, q2, by rw [q3, Nat.mul_one], by rw [← q4, Nat.mul_one]⟩, r3, .inr ⟨g, rfl, hg⟩⟩
    · have hown1 := hown.kept (BW_alloc (Below.refl _ _) (.cells #[u] e))
      obtain ⟨v', w', hr, h2, h3, h4⟩ := run_append_ownB' (P := P) (w.alloc (.cells #[u] e)) base t o.type e i z bytes ht hi hz hsize hby hzs v n xs hown1 ⟨w.heap.size, 0, none⟩ 1 1 [u] rfl hnews hone h63 hbytes (by simp; omega)
      refine ⟨v', w', hr, .inr h2, h3, ?_⟩
      rcases h4 with h4 | ⟨g, h4, h5⟩
      · exact .inl h4
      · exact .inr ⟨g, h4, by simp at h5; omega⟩
  obtain ⟨v', w', hr, h2, h3, h4⟩ := key
  unfold Oper.wp execOp
  simp only [ho, resolve, invoke, builtin, Sem.run_bind, Sem.run_pure, Result.andThen_ok, List.map_toArray, List.map_cons, List.map_nil, hs, hx, hr]
  exact hK _ _ (h v' w' h2 ⟨h3.os.trans hga.os, h3.tape.trans hga.tape, h3.output.trans hga.output, Nat.le_trans hga.size h3.size, fun k hk hne => (h3.block k (Nat.lt_of_lt_of_le hk hga.size) hne).trans (hga.block k hk hne)⟩ h4)
end Go.Proofs.YtbimnfmjgmfijaaDoor
