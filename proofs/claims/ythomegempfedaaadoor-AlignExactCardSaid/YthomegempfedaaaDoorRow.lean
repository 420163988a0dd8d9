/-
  The shell of a law whose row lists package variables ('laid'): first and second form alike.
-/
import Derived.Test.YthomegempfedaaaDoorShut
import Derived.Deep.DeepHandedRow
namespace Go.Sx
open Go.ChangeShapes Go.WideShapes Go.ChangeAt Go.RowKit

theorem law_row {C : Checked} {os : Os} {f : FuncId} {fn : Func} {s : OpenSpec} {F : Stop.Interp} {H : Type} {enc : TypeId × Value → H} {laid : List (String × DataW Unit)} (own : ownKnob C.prog.godebug = none) (started : os.Started) (noInit : C.prog.inits.idxOf? f = none) (hfn : C.prog.funcs[f]? = some fn)
    (witness : ∃ (w : World) (tape : Tape) (i : Input), w.os = os ∧ (w.forCall tape i).Shaped C.prog ∧ i.vars = [] ∧ Input.okWide C.prog (w.forCall tape i) .any w.heap.size f i ∧
      s.preRow enc C.prog fn [] false laid (w.forCall tape i).memory i.args ∧ ({} : Assume).holds C.prog (lone (Frame.enter C.prog f i.args .normal) [] (w.forCall tape i)))
    (hl : laidOutB C.prog = true) (hr : fn.params.toList.all (fun t => C.prog.readableRec t && decide (t < C.prog.types.size)) = true) (hres : onlyBools C.prog fn = true) (hv : s.vars = [])
    (hs : ∀ ds : List (DataW H), ds.length = fn.params.toList.length → (s.at F).fn H ds = { results := [.lit (.bool true)], args := ds })
    (walk : ∀ (W : World) (base : Nat) (vs : List Value) (ds : List (DataW H)), (∀ k, s.cond = some k → k H ds = true) → laidMetH C.prog laid W → Args enc C.prog W base fn.params.toList vs ds → Calls C.prog f vs.toArray W fun e W' => e = .returned (.bool true) ∧ Ext W W') :
    ReturnsInHanded {} C os f .any (s.preRow enc C.prog fn [] false laid) ((s.at F).post enc C.prog fn false true false false) := by
  refine returnsInHanded_of_row own started noInit hfn witness ?_
  intro W base args ds gs before hval hW _ hkk hw hL _ _
  obtain ⟨tb, hb1, hb2⟩ := onlyBools_some hres
  have hW0 := hW
  obtain ⟨p, q, hA, hV, rfl, hz, hn⟩ := hW
  rw [hv] at hV
  obtain ⟨rfl, rfl⟩ := trodVars_none hV
  have hvt : s.bare.plain.varTypes C.prog = [] := by
    unfold DataSpec.varTypes
    have : s.bare.plain.vars = [] := hv
    rw [this]; rfl
  rw [hvt, List.append_nil, List.append_nil] at hw
  rw [List.append_nil] at hkk
  have hArgs : Args enc C.prog W base fn.params.toList args.toList ds := args_of (fun j t v a b => hval j t v (by simpa using a) (by simpa using b)) hA hw
  have h := walk W base args.toList ds hkk hL hArgs
  rw [Array.toArray_toList] at h
  refine h.mono fun e W' ⟨he, x⟩ => ?_
  exact ⟨_, he, law_post hl hr hb1 hb2 hv hW0 (by rw [List.append_nil]; exact hs ds (args_len hArgs)) x⟩
end Go.Sx
