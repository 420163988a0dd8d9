/-
  A call of a function value in a region that draws its order.
-/
import Derived.Test.YtajicmghnllnmaaDr
namespace Go.Sx
variable {P : Program}
theorem opR_callv {o : Oper} {a : Act} {w : World} {K : Value → World → Prop} {f : FuncId} {g : Operand} {xs : Array Operand} {ts : Array TypeId} {cap args : Array Value} (ho : o.op = .call { callee := .value g, args := xs, argTypes := ts })
    (hg : a.eval g = .func (.func f) #[] cap) (he : ∀ args w, (callFunc f args).run P w = .ok (.enter f args) w) (hx : xs.map a.eval = args) (h : Calls P f (args ++ cap) w (fun e w'' => ∃ v, e = .returned v ∧ K v w'')) : opR P o a w K := by
  subst hx
  have hr : (execOp a.eval o).run P w = .ok (.enter f (xs.map a.eval ++ cap)) w := by
    unfold execOp
    simp only [ho, resolve, hg, Deferred.ofValue, Sem.run_bind, Sem.run_pure, Result.andThen_ok, invoke]
    first | exact he _ _ | (simp only [Array.empty_append]; exact he _ _)
  unfold opR
  rw [hr]
  exact h
end Go.Sx
