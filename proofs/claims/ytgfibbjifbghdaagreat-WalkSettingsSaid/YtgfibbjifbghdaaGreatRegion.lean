/- Words on a region that draws its order: the frame written out; an append whose run is known. -/
import Derived.Test.YtgfibbjifbghdaaGreatBase
import Derived.Orders
namespace Go.Proofs.YtgfibbjifbghdaaGreat
theorem wpAny_act {P : Program} {md : Region.Mode} {ops : Array Oper} {Q : Exit → Act → World → Prop} {n : Nat} {l : Array Bool} {a a' : Act} {w : World} (e : a = a') (h : wpAny P md ops Q n l a' w) : wpAny P md ops Q n l a w := by
  rw [e]; exact h
theorem wpOp_append_run {P : Program} {ops : Array Oper} {Q : Exit → Act → World → Prop} {i : Nat} {K : Act → World → Prop} {a : Act} {w : World} (o : Oper) (hi : ops[i]? = some o) (hgd : o.guard = none) (s x : Operand) (t : TypeId)
    (ho : o.op = .call { callee := .builtin .append, args := #[s, x], argTypes := #[t, t] }) (v xv : Value) (hs : a.eval s = v) (hx : a.eval x = xv) (v' : Value) (w' : World)
    (hrun : (Builtin.append_ #[t, t] o.type #[v, xv]).run P w = .ok v' w') (h : K (a.put o.dst v') w') : wpOp P ops Q i K a w := by
  unfold wpOp
  simp only [hi, Region.wanted, hgd]
  unfold Oper.wp
  simp [execOp, ho, resolve, invoke, builtin, hs, hx, hrun, Result.andThen]
  exact Or.inl (by rw [Oper.upon_value]; exact h)
theorem oper_append_run {P : Program} {Q : Exit → Act → World → Prop} {K : Act → World → Prop} {a : Act} {w : World} {o : Oper} (s x : Operand) (t : TypeId)
    (ho : o.op = .call { callee := .builtin .append, args := #[s, x], argTypes := #[t, t] }) (v xv : Value) (hs : a.eval s = v) (hx : a.eval x = xv) (v' : Value) (w' : World)
    (hrun : (Builtin.append_ #[t, t] o.type #[v, xv]).run P w = .ok v' w') (h : K (a.put o.dst v') w') : o.wp P a w K Q := by
  unfold Oper.wp
  simp [execOp, ho, resolve, invoke, builtin, hs, hx, hrun, Result.andThen]
  rw [Oper.upon_value]; exact h
end Go.Proofs.YtgfibbjifbghdaaGreat
