/- Small laws for a region that draws its order: what a copy, a choice, a cut of a text, an operator, a length yields, whatever else is in the frame. No dump is spoken of. -/
import Derived.Test.YtbimnfmjgmfijaaDoorKitA
import Derived.Deep.RegionHeld3
import Derived.Deep.MidRow
namespace Go.Proofs.YtbimnfmjgmfijaaDoor
open Go.RowKit
section
variable {P : Program} {ops : Array Oper} {S : World → Prop} {op : Oper} {a : Act}
theorem yk_skip (hw : Region.wanted op (yielded ops a.tmps) = false) : YieldsIf P ops S op undef a := .inr ⟨hw, rfl⟩
theorem yk_move (hw : Region.wanted op (yielded ops a.tmps) = true) (x : Operand) (ho : op.op = .move x) (v : Value) (hx : a.eval x = v) : YieldsIf P ops S op v a :=
  .inl ⟨hw, fun w _ => by
    unfold execOp
    simp only [ho, hx, Sem.run_pure]⟩
theorem yk_assign (hw : Region.wanted op (yielded ops a.tmps) = true) (x : Operand) (ho : op.op = .assign x) (v : Value) (hx : a.eval x = v) : YieldsIf P ops S op v a :=
  .inl ⟨hw, fun w _ => by
    unfold execOp
    simp only [ho, hx, Sem.run_pure]⟩
theorem yk_pick (hw : Region.wanted op (yielded ops a.tmps) = true) (c x y : Operand) (ho : op.op = .pick c x y) (b : Bool) (hc : a.eval c = .bool b) (v : Value) (hv : (if b = true then a.eval x else a.eval y) = v) : YieldsIf P ops S op v a :=
  .inl ⟨hw, fun w _ => by
    unfold execOp
    simp only [ho, hc, asBool, Sem.run_bind, Sem.run_pure, Result.andThen_ok, hv]⟩
theorem yk_slice (hw : Region.wanted op (yielded ops a.tmps) = true) (ty : TypeId) (x : Operand) (lo hi mx : Option Operand) (ho : op.op = .slice ty x lo hi mx)
    (X : Value) (LO HI MX : Option Value) (hx : a.eval x = X) (hlo : lo.map a.eval = LO) (hhi : hi.map a.eval = HI) (hmx : mx.map a.eval = MX) (v : Value)
    (hr : ∀ w, S w → (Instr.sliceAt ty X LO HI MX).run P w = .ok v w) : YieldsIf P ops S op v a :=
  .inl ⟨hw, fun w hS => by
    unfold execOp
    simp only [ho, hx, hlo, hhi, hmx, Sem.run_bind, Sem.run_pure, Result.andThen_ok, hr w hS]⟩
theorem yk_bin (hw : Region.wanted op (yielded ops a.tmps) = true) (b : BinOp) (xt : TypeId) (x y : Operand) (yt : TypeId) (ho : op.op = .binOp b xt x y yt)
    (X Y : Value) (hx : a.eval x = X) (hy : a.eval y = Y) (v : Value)
    (hr : ∀ w, S w → (do eqGuard b xt x y X Y; binOp b xt X Y : Sem Value).run P w = .ok v w) : YieldsIf P ops S op v a :=
  .inl ⟨hw, fun w hS => by
    have h := hr w hS
    unfold execOp
    simp only [ho, hx, hy]
    rw [Sem.run_bind, h]
    rfl⟩
theorem yk_un (hw : Region.wanted op (yielded ops a.tmps) = true) (u : UnOp) (t : TypeId) (x : Operand) (ho : op.op = .unOp u t x) (X : Value) (hx : a.eval x = X) (v : Value)
    (hr : ∀ w, S w → (Op.unary u X).run P w = .ok v w) : YieldsIf P ops S op v a :=
  .inl ⟨hw, fun w hS => by
    have h := hr w hS
    unfold execOp
    simp only [ho, hx]
    rw [Sem.run_bind, h]
    rfl⟩
theorem yk_conv (hw : Region.wanted op (yielded ops a.tmps) = true) (s t : TypeId) (x : Operand) (ho : op.op = .convert s t x) (X : Value) (hx : a.eval x = X) (v : Value)
    (hr : ∀ w, S w → (convert s t X).run P w = .ok v w) : YieldsIf P ops S op v a :=
  .inl ⟨hw, fun w hS => by
    have h := hr w hS
    unfold execOp
    simp only [ho, hx]
    rw [Sem.run_bind, h]
    rfl⟩
theorem yk_load (hw : Region.wanted op (yielded ops a.tmps) = true) (t : TypeId) (x : Operand) (ho : op.op = .load t x) (X : Value) (hx : a.eval x = X) (v : Value)
    (hr : ∀ w, S w → (Instr.loadAt t X).run P w = .ok v w) : YieldsIf P ops S op v a :=
  .inl ⟨hw, fun w hS => by
    have h := hr w hS
    unfold execOp
    simp only [ho, hx]
    rw [Sem.run_bind, h]
    rfl⟩
theorem yk_len (hw : Region.wanted op (yielded ops a.tmps) = true) (x : Operand) (t : TypeId) (ho : op.op = .call { callee := .builtin .len, args := #[x], argTypes := #[t] }) (X : Value) (hx : a.eval x = X) (v : Value)
    (hr : ∀ w, S w → (Builtin.len_ #[t] op.type #[X]).run P w = .ok v w) : YieldsIf P ops S op v a :=
  .inl ⟨hw, fun w hS => by
    have h := hr w hS
    unfold execOp
    simp only [ho]
    unfold resolve invoke builtin
    simp only [List.map_toArray, List.map_cons, List.map_nil, hx, Sem.run_bind, Sem.run_pure, Result.andThen_ok, h]⟩
end
end Go.Proofs.YtbimnfmjgmfijaaDoor
