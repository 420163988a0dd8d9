/-
  make in a region that draws its order.
-/
import Derived.Test.YthomegempfedaaaDoorMk
import Derived.Test.YthomegempfedaaaDoorDr
namespace Go.Sx
open Go.RowKit
theorem opR_mk {α : Type} {P : Program} {w : World} {o : Oper} {a : Act} {K : Value → World → Prop} {t e : TypeId} {sz bytes : Nat} {enc : α → List Value} {z : Value} (x0 : α)
    (ht : P.underlying t = some (.slice e)) (hi : (P.info? e).map (fun i => (i.zero, i.size, i.bytes)) = some (some z, sz, bytes)) (hz : z.cells.toList = enc x0) (hs : (enc x0).length = sz)
    (l c : Operand) (hop : o.op = Op.makeSlice t l c) (n : Nat) (hl : a.eval l = .int .i64 (n : Int)) (hc : a.eval c = .int .i64 (n : Int)) (hb : n * bytes ≤ 281474976710656) (hn : n ≤ 140737488351232)
    (hK : ∀ cs, Bk (w.alloc (.cells cs e)) w.heap.size e enc (List.replicate n x0) → K (.slice (some ⟨w.heap.size, 0, none⟩) n n) (w.alloc (.cells cs e))) :
    opR P o a w K := by
  obtain ⟨i0, h2, h3, h4, h5⟩ := info_parts hi
  have hbb : (i0.bytes : Int) * (n : Int) ≤ 281474976710656 := by
    rw [h5, Int.mul_comm, ← Int.natCast_mul]; omega
  have hr := run_make (P := P) w t e i0 z ht h2 h3 .i64 .i64 (n : Int) (n : Int) (by omega) (Int.le_refl _) hbb (by omega)
  simp only [Int.toNat_natCast] at hr
  have hbk : Bk (w.alloc (.cells (madeCells z.cells (n * i0.size)) e)) w.heap.size e enc (List.replicate n x0) := Bk.mk w e _ (by rw [h4]; exact made_list hz hs n)
  unfold opR
  simp [execOp, hop, hl, hc, hr, Result.andThen, uponR]
  exact hK _ hbk
end Go.Sx
