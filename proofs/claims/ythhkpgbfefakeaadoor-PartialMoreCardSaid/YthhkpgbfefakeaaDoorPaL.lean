/-
  Open arguments of the laws of chapter 37: rows.
-/
import Derived.Test.YthhkpgbfefakeaaDoorPaH
import Derived.Test.YthhkpgbfefakeaaDoorLdA
import Derived.Test.YthhkpgbfefakeaaDoorOpn
namespace Go.Proofs.YthhkpgbfefakeaaDoor
open Go.RowKit Go.Sx Go.Sx.Sz Go.ChangeShapes Go.WideShapes Go.ChangeAt

def rowFits (r : Row) : Prop := Fits .i64 r.h ∧ Fits .i64 r.lo ∧ Fits .i64 r.hi
theorem el_row {H : Type} {enc : TypeId × Value → H} {w : World} : El enc Tryd.prog w 23 3 encR rowFits :=
  (El.struct Tryd.underlying23 (by kernel_rfl) (Fs.cons (El.int Tryd.underlying3) (by kernel_rfl) rfl (Fs.cons (El.int Tryd.underlying3) (by kernel_rfl) rfl (Fs.cons (El.int Tryd.underlying3) (by kernel_rfl) rfl (Fs.nil _))))).map
    (fun a => (⟨a.1, a.2.1, a.2.2.1⟩ : Row)) (fun _ => rfl) (fun _ h => ⟨h.1, h.2.1, h.2.2.1⟩)
theorem el_vec {H : Type} {enc : TypeId × Value → H} {w : World} : El enc Tryd.prog w 33 6 V6.list (fun v => ∀ k, k < 6 → Fits .i64 (v.get k)) :=
  El.v6 Tryd.underlying33 Tryd.underlying3 (by kernel_rfl) (by kernel_rfl)
theorem arg_rows {H : Type} {enc : TypeId × Value → H} {W : World} {base : Nat} {v : Value} {d : DataW H} (h : Arg enc Tryd.prog W base 31 v d) : ∃ l, Sl W 3 encR v l ∧ (∀ r ∈ l, rowFits r) ∧ l.length * 24 ≤ 140737488351232 := by
  have hb : Tryd.prog.bytesOf 23 = 24 := by kernel_rfl
  have := Arg.slice (ok := rowFits) (enc := encR) (sz := 3) Tryd.underlying31 (by kernel_rfl) (by rw [hb]; decide) el_row h
  rw [hb] at this
  exact this
theorem arg_row {H : Type} {enc : TypeId × Value → H} {W : World} {base : Nat} {v : Value} {d : DataW H} (h : Arg enc Tryd.prog W base 23 v d) : ∃ r : Row, v = .agg #[.int .i64 r.h, .int .i64 r.lo, .int .i64 r.hi] ∧ rowFits r :=
  Arg.struct Tryd.underlying23 el_row h
theorem arg_vec {H : Type} {enc : TypeId × Value → H} {W : World} {base : Nat} {v : Value} {d : DataW H} (h : Arg enc Tryd.prog W base 33 v d) : ∃ x : V6, v = .agg #[.int .i64 x.a, .int .i64 x.b, .int .i64 x.c, .int .i64 x.d, .int .i64 x.e, .int .i64 x.f] ∧ ∀ k, k < 6 → Fits .i64 (x.get k) :=
  Arg.array Tryd.underlying33 el_vec h
end Go.Proofs.YthhkpgbfefakeaaDoor
