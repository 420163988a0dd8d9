/-
  The second form's bound: no slice among the arguments is longer than the bulk.
-/
import Derived.Test.YteelklpppfahcaaShut
namespace Go.Proofs.Yteelklpppfahcaa
open Go.Sx

theorem bulk_pos {H : Type} : ∀ d : DataW H, 0 < Rows.uptoBulk d
  | .lit l => by cases l <;> simp [Rows.uptoBulk]
  | .nil | .ptr _ | .slice _ _ | .agg _ | .iface _ _ | .map _ | .held _ => by simp [Rows.uptoBulk]
theorem bulks_len {H : Type} : ∀ l : List (DataW H), l.length ≤ Rows.uptoBulkAll l
  | [] => Nat.zero_le _
  | d :: l => by have h1 := bulk_pos d; have h2 := bulks_len l; simp only [Rows.uptoBulkAll, List.length_cons]; omega
theorem bulks_mem {H : Type} : ∀ {l : List (DataW H)} {d : DataW H}, d ∈ l → Rows.uptoBulk d ≤ Rows.uptoBulkAll l
  | x :: l, d, h => by
    simp only [Rows.uptoBulkAll]
    rcases List.mem_cons.1 h with rfl | h
    · exact Nat.le_add_right _ _
    · have := bulks_mem h; omega
theorem delems_len {H : Type} (d : DataW H) : (delems d).length ≤ Rows.uptoBulk d := by
  cases d with
  | slice es sp => have := bulks_len es; simp only [delems, Rows.uptoBulk]; omega
  | _ => simp [delems]
theorem bulk_len {H : Type} {d : DataW H} {ds : List (DataW H)} (h : d ∈ ds) (hk : Rows.uptoSmall H ds = true) : (delems d).length ≤ 1048576 :=
  Nat.le_trans (delems_len d) (Nat.le_trans (bulks_mem h) (of_decide_eq_true hk))
end Go.Proofs.Yteelklpppfahcaa
