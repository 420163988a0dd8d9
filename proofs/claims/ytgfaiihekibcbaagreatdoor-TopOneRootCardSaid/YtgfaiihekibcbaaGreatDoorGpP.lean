/-
  Walks: schismatop's groups.
-/
import Derived.Test.YtgfaiihekibcbaaGreatDoorLibG
import Derived.Test.YtgfaiihekibcbaaGreatDoorGpK
import Derived.Test.YtgfaiihekibcbaaGreatDoorGpB
import Derived.Test.YtgfaiihekibcbaaGreatDoorR19E
set_option maxRecDepth 100000
set_option linter.unusedVariables false
namespace Go.Proofs.YtgfaiihekibcbaaGreatDoor
open Go.RowKit Go.Sx Go.Sx.Sz Go.Sx.Sc Go.Sx.Po Go.Sx.Ch

set_option maxHeartbeats 4000000 in
theorem grp1_walk (bx ob N a b : Nat) (o : List Int) (hl : o.length = N) (hN : N ≤ 1000) (ha : a < N) (hb : b < N) (w : World) (hbx : w.heap[bx]? = some (.cells #[.slice (some ⟨ob, 0, none⟩) N N] 24 (0, 0))) (H : Bk w ob 3 encZ o) (hne : bx ≠ ob) :
    Calls Tryz.prog 19 #[.int .i64 a, .int .i64 b, .pointer (some ⟨bx, 0, none⟩)] w fun e w' => e = .returned (.tuple #[]) ∧ Bk w' ob 3 encZ (joinG o a b) ∧ Kb (some ob) w w' := by
  have hat : ∀ (w' : World) (o' : List Int), Bk w' ob 3 encZ o' → ∀ i (h : i < o'.length), w'.cell? ⟨ob, i, none⟩ = some (.int .i64 o'[i]) := fun w' o' H' i h => by
    have := Bk.cell (sz := 1) H' (fun _ _ => rfl) i 0 h (by omega)
    simpa [encZ] using this
  have ca := hat w o H a (by omega)
  have cb := hat w o H b (by omega)
  have cx := block_cell hbx 0 _ rfl
  have ea : o[a]'(by omega) = lab o a := by unfold lab; rw [List.getD_eq_getElem?_getD, List.getElem?_eq_getElem (by omega)]; rfl
  have eb : o[b]'(by omega) = lab o b := by unfold lab; rw [List.getD_eq_getElem?_getD, List.getElem?_eq_getElem (by omega)]; rfl
  rw [ea] at ca; rw [eb] at cb
  have hend := joinK_end o a b
  obtain ⟨x, hx⟩ : ∃ x, lab o a = x := ⟨_, rfl⟩
  obtain ⟨y, hy⟩ : ∃ y, lab o b = y := ⟨_, rfl⟩
  rw [hx] at ca; rw [hy] at cb; rw [hx, hy] at hend
  obtain ⟨r, hr⟩ : ∃ r, joinG o a b = r := ⟨_, rfl⟩
  rw [hr] at hend ⊢
  obtain ⟨mx, hmx⟩ : ∃ z, max x y = z := ⟨_, rfl⟩
  obtain ⟨mn, hmn⟩ : ∃ z, min x y = z := ⟨_, rfl⟩
  rw [hmx, hmn, hl] at hend
  have HEND := Lib.hid hend; have HAT := Lib.hid hat; have HBX := Lib.hid hbx; have HH := Lib.hid H; have HL := Lib.hid hl
  have j1 : (0 : Int) ≤ (a : Int) := by omega
  have j2 : (a : Int) < (N : Int) := by omega
  have j3 : (0 : Int) ≤ (b : Int) := by omega
  have j4 : (b : Int) < (N : Int) := by omega
  have ca := ext_cells ca; have cb := ext_cells cb; have cx := ext_cells cx
  have hmx2 : mx = (if x < y then y else x) := by rw [← hmx]; split <;> omega
  have hmn2 : mn = (if y < x then y else x) := by rw [← hmn]; split <;> omega
  clear hend hat hbx H ea eb hx hy hr hmx hmn hl
  go_enter Tryz.func19, Tryz.ntmps19
  go_upto_region 0 with fail
  refine wp_region_ord [(0,true), (1,true), (2,true), (3,true), (4,true), (5,true), (6,true), (7,true), (8,true), (9,true), (10,true), (11,true), (12,true), (13,true), (14,true), (15,true), (16,true), (17,true), (18,true), (19,true)] 20 Ext (Ext w) wide (by kernel_rfl) (stable_ext _) (Ext.drawn _ _) ?_
  iterate 8 (first | (apply wpOrd_no rfl; rfl; (simp only [List.getElem_toArray, List.getElem_cons_succ, List.getElem_cons_zero, Act.put, List.setIfInBounds_toArray, List.set_cons_succ, List.set_cons_zero]; rfl)) | (apply wpOrd_yes rfl; rfl; (intro w' hw'; unfold opR; go_simp; exact ⟨Ext.refl _, rfl⟩); (simp only [List.getElem_toArray, List.getElem_cons_succ, List.getElem_cons_zero, Act.put, List.setIfInBounds_toArray, List.set_cons_succ, List.set_cons_zero]; rfl)))
  apply wpOrd_det (v := .int .i64 mn) rfl rfl
  · intro w' hw'
    unfold opR
    go_simp
    exact ⟨Ext.refl _, rfl⟩
  · (simp only [List.getElem_toArray, List.getElem_cons_succ, List.getElem_cons_zero, Act.put, List.setIfInBounds_toArray, List.set_cons_succ, List.set_cons_zero]; rfl)
  iterate 8 (first | (apply wpOrd_no rfl; rfl; (simp only [List.getElem_toArray, List.getElem_cons_succ, List.getElem_cons_zero, Act.put, List.setIfInBounds_toArray, List.set_cons_succ, List.set_cons_zero]; rfl)) | (apply wpOrd_yes rfl; rfl; (intro w' hw'; unfold opR; go_simp; exact ⟨Ext.refl _, rfl⟩); (simp only [List.getElem_toArray, List.getElem_cons_succ, List.getElem_cons_zero, Act.put, List.setIfInBounds_toArray, List.set_cons_succ, List.set_cons_zero]; rfl)))
  apply wpOrd_det (v := .int .i64 mx) rfl rfl
  · intro w' hw'
    unfold opR
    go_simp
    exact ⟨Ext.refl _, rfl⟩
  · (simp only [List.getElem_toArray, List.getElem_cons_succ, List.getElem_cons_zero, Act.put, List.setIfInBounds_toArray, List.set_cons_succ, List.set_cons_zero]; rfl)
  clear hmx2 hmn2
  iterate 2 (first | (apply wpOrd_no rfl; rfl; (simp only [List.getElem_toArray, List.getElem_cons_succ, List.getElem_cons_zero, Act.put, List.setIfInBounds_toArray, List.set_cons_succ, List.set_cons_zero]; rfl)) | (apply wpOrd_yes rfl; rfl; (intro w' hw'; unfold opR; go_simp; exact ⟨Ext.refl _, rfl⟩); (simp only [List.getElem_toArray, List.getElem_cons_succ, List.getElem_cons_zero, Act.put, List.setIfInBounds_toArray, List.set_cons_succ, List.set_cons_zero]; rfl)))
  refine wpOrd_nil rfl ?_
  intro w9 x9
  have HX9 := Lib.hid x9
  clear ca cb cx x9 j1 j2 j3 j4
  have cx := block_cell (block_ext HX9.out HBX.out) 0 _ rfl
  have hlo := HL.out
  go_wp2
  go_loopw [28] (fun i wr => ∃ k : Nat, k ≤ N ∧ i = .int .i64 k ∧ Bk wr ob 3 encZ (joinK o mx mn k) ∧ Kb (some ob) w9 wr) (fun i _ => N - (intOf i).toNat)
  case atStart => exact ⟨0, Nat.zero_le _, rfl, by rw [joinK_zero]; exact HH.out.ext HX9.out, Kb.refl _ _⟩
  case round =>
    obtain ⟨k, hk, rfl, H, K⟩ := hrel
    clear cx
    have cx := block_cell (K.at (block_ext HX9.out HBX.out) hne) 0 _ rfl
    by_cases hlt : k < N
    · have hkl : k < (joinK o mx mn k).length := by rw [joinK_len o mx mn (by omega)]; omega
      have ck := HAT.out wr _ H k hkl
      rw [joinK_at o mx mn (by omega) hkl] at ck
      have hst := joinK_stay o mx mn (k := k) (by omega)
      have hsu := joinK_succ o mx mn (k := k) (by omega)
      obtain ⟨z, hz⟩ : ∃ z, o[k]'(by omega) = z := ⟨_, rfl⟩
      rw [hz] at ck hst hsu
      have HS1 := Lib.hid hst; have HS2 := Lib.hid hsu; have HB := Lib.hid H; have HK := Lib.hid K
      have fk := H.free k
      have hput := H.put (sz := 1) (fun _ _ => rfl) mn rfl k hkl
      rw [Nat.mul_one] at hput
      have HP := Lib.hid hput
      have i1 : (0 : Int) ≤ (k : Int) := by omega
      have i2 : (k : Int) < (N : Int) := by omega
      clear hst hsu hz H K hput hkl
      by_cases hzm : z = mx
      · subst hzm
        have HF : Hid (Bk (wr.setCell ⟨ob, k, none⟩ (.int .i64 mn)) ob 3 encZ (joinK o z mn (k + 1))) := Lib.hid (by rw [HS2.out, if_pos rfl]; exact HP.out)
        have HKF : Hid (Kb (some ob) w9 (wr.setCell ⟨ob, k, none⟩ (.int .i64 mn))) := Lib.hid (HK.out.trans (kb_setCells [.int .i64 mn] wr k (Kb.refl _ _)))
        have t1 : (z == z) = true := by simp
        go_wp2
        go_roundw
        case rel => exact ⟨k + 1, by omega, by go_num, HF.out, HKF.out⟩
        case measure => simp [intOf]; omega
      · have HF : Hid (Bk wr ob 3 encZ (joinK o mx mn (k + 1))) := Lib.hid (by rw [HS1.out hzm]; exact HB.out)
        have t1 : (z == mx) = false := by simpa using hzm
        clear hzm
        go_wp2
        go_roundw
        case rel => exact ⟨k + 1, by omega, by go_num, HF.out, HK.out⟩
        case measure => simp [intOf]; omega
    · obtain rfl : k = N := by omega
      rw [HEND.out] at H
      have HF := Lib.hid H; have HKF := Lib.hid K
      clear H K
      go_wp2
      go_end0
      exact ⟨rfl, HF.out, (HX9.out.kb _).trans HKF.out⟩
end Go.Proofs.YtgfaiihekibcbaaGreatDoor
