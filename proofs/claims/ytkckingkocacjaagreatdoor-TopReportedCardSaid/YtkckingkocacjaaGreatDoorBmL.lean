/-
  Open arguments of the laws of chapter 40.
-/
import Derived.Test.YtkckingkocacjaaGreatDoorAuE
import Derived.Test.YtkckingkocacjaaGreatDoorLibC
import Derived.Test.YtkckingkocacjaaGreatDoorLdA
namespace Go.Proofs.YtkckingkocacjaaGreatDoor
open Go.RowKit Go.Sx Go.Sx.Sz Go.Sx.Sc Go.Sx.Au Go.ChangeShapes Go.WideShapes Go.ChangeAt

section
variable {H : Type} {enc : TypeId × Value → H} {W : World} {base : Nat} {v : Value} {d : DataW H}
theorem el_size39 : El enc Tryz.prog W 50 2 encS (fun s => Fits .i64 s.lo ∧ Fits .i64 s.hi) :=
  (El.struct Tryz.underlying50 (by kernel_rfl) (Fs.cons (El.int Tryz.underlying3) (by kernel_rfl) rfl (Fs.cons (El.int Tryz.underlying3) (by kernel_rfl) rfl (Fs.nil _)))).map
    (fun a => (⟨a.1, a.2.1⟩ : S2)) (fun _ => rfl) (fun _ h => ⟨h.1, h.2.1⟩)
theorem arg_sizes (h : Arg enc Tryz.prog W base 36 v d) : ∃ l, Sl W 2 encS v l ∧ l.length * 16 ≤ 140737488351232 := by
  have hb : Tryz.prog.bytesOf 50 = 16 := by kernel_rfl
  obtain ⟨l, a, _, c⟩ := Arg.slice (sz := 2) (enc := encS) Tryz.underlying36 (by kernel_rfl) (by rw [hb]; decide) el_size39 h
  rw [hb] at c
  exact ⟨l, a, c⟩
end

end Go.Proofs.YtkckingkocacjaaGreatDoor
