/-
  Walk: schismalaw39.two.
-/
import Derived.Test.YtglngmfnoganpaaDoorR39B
import Derived.Test.YtglngmfnoganpaaDoorScA
set_option linter.unusedVariables false
namespace Go.Proofs.YtglngmfnoganpaaDoor
open Go.RowKit Go.Sx Go.Sx.Sz Go.Sx.Sc Go.Sx.Au

def exT : Sc := ⟨2, [⟨0, 0, 10, ⟨0, 0, 0, 0, 0, 0⟩, false⟩, ⟨1, 0, 10, ⟨0, 0, 0, 0, 0, 0⟩, false⟩], [⟨0, 1, ⟨-1, 1, 0, 0, 0, 0⟩, 1000⟩], []⟩
set_option maxRecDepth 100000 in
set_option maxHeartbeats 2000000 in
theorem two_walk (w : World) : Calls Tryd.prog 31 #[] w fun e w' => ∃ vn vp vc, e = .returned (.agg #[.int .i64 2, vn, vp, vc]) ∧ ScR w' vn vp vc exT ∧ Ext w w' := by
  go_enter Tryd.func31, Tryd.ntmps31
  go_wp2
  refine bodyPost_ret (v := .agg #[.int .i64 2, .slice (some ⟨w.heap.size + 1, 0, none⟩) 2 2, .slice (some ⟨w.heap.size + 1 + 1, 0, none⟩) 1 1, .slice none 0 0]) (by simp [results, Tryd.results31, go_sem]) rfl ⟨_, _, _, rfl, ⟨?_, ?_, Sl.nil _ _ _⟩, (by repeat (first | with_reducible exact Ext.refl _ | with_reducible assumption | with_reducible apply Ext.alloc | with_reducible apply Ext.drew | (with_reducible refine Ext.setCell ?_ (by (try simp) <;> omega) _)))⟩
  · refine Bk.sl (e := 91) (enc := encN) (xs := exT.notes) (sz := 10) ⟨_, ?_, rfl⟩ (fun _ _ => rfl) rfl (by simp [exT])
    first | exact block_alloc (block_at (by simp) _) _ | exact block_ne (block_ne (block_ne (block_ne (block_alloc (block_at (by simp) _) _) _ _ (by simp)) _ _ (by simp)) _ _ (by simp)) _ _ (by simp)
  · refine Bk.sl (e := 51) (enc := encP) (xs := exT.pairs) (sz := 9) ⟨_, ?_, rfl⟩ (fun _ _ => rfl) rfl (by simp [exT])
    first | exact block_at (by simp) _ | exact block_ne (block_ne (block_ne (block_ne (block_at (by simp) _) _ _ (by simp)) _ _ (by simp)) _ _ (by simp)) _ _ (by simp)
end Go.Proofs.YtglngmfnoganpaaDoor
