/-
  Walks of audit: far, apart, shown, denied, verdict, finding.
-/
import Derived.Test.YthpfalbeieloaaaGreatDoorLibP
import Derived.Test.YthpfalbeieloaaaGreatDoorLibB
import Derived.Test.YthpfalbeieloaaaGreatDoorLibM
import Derived.Test.YthpfalbeieloaaaGreatDoorLibA
set_option linter.unusedVariables false
namespace Go.Proofs.YthpfalbeieloaaaGreatDoor
open Go.RowKit Go.Sx Go.Sx.Sz Go.Sx.Sc Go.Sx.Au

/-- A difference that is not too great. -/
def dOk (d : S2) : Prop := (-1000000000000000 ≤ d.lo ∧ d.lo ≤ 1000000000000000) ∧ (-1000000000000000 ≤ d.hi ∧ d.hi ≤ 1000000000000000)

set_option maxRecDepth 100000 in
theorem ret_eq {x y : Int} (h : x = y) : Ending.returned (.int .i64 x) = .returned (.int .i64 y) := by rw [h]

set_option maxRecDepth 100000 in
theorem far_walk (d : S2) (hd : dOk d) (w : World) : Calls Tryz.prog 101 #[.agg #[.int .i64 d.lo, .int .i64 d.hi]] w fun e w' => e = .returned (.int .i64 (farZ d)) ∧ Ext w w' := by
  obtain ⟨a, b⟩ := d
  unfold dOk at hd
  dsimp only at hd
  obtain ⟨⟨h1, h2⟩, h3, h4⟩ := hd
  rcases Int.lt_trichotomy b (-a) with m | m | m
  · have HR : Hid (farZ ⟨a, b⟩ = -a) := Lib.hid (by unfold farZ; dsimp only; rw [if_neg (by omega)])
    go_enter Tryz.func101, Tryz.ntmps101
    go_wp2
    go_ret
    exact ⟨by rw [HR.out] <;> rfl, (by repeat (first | with_reducible exact Ext.refl _ | with_reducible assumption | with_reducible apply Ext.alloc | with_reducible apply Ext.drew | (with_reducible refine Ext.setCell ?_ (by (try simp) <;> omega) _)))⟩
  · have HR : Hid (farZ ⟨a, b⟩ = b) := Lib.hid (by unfold farZ; dsimp only; rw [if_pos (by omega)])
    go_enter Tryz.func101, Tryz.ntmps101
    go_wp2
    go_ret
    exact ⟨by rw [HR.out] <;> first | rfl | simp [m], (by repeat (first | with_reducible exact Ext.refl _ | with_reducible assumption | with_reducible apply Ext.alloc | with_reducible apply Ext.drew | (with_reducible refine Ext.setCell ?_ (by (try simp) <;> omega) _)))⟩
  · have HR : Hid (farZ ⟨a, b⟩ = b) := Lib.hid (by unfold farZ; dsimp only; rw [if_pos (by omega)])
    go_enter Tryz.func101, Tryz.ntmps101
    go_wp2
    go_ret
    exact ⟨by rw [HR.out] <;> rfl, (by repeat (first | with_reducible exact Ext.refl _ | with_reducible assumption | with_reducible apply Ext.alloc | with_reducible apply Ext.drew | (with_reducible refine Ext.setCell ?_ (by (try simp) <;> omega) _)))⟩

set_option maxRecDepth 100000 in
theorem apart_walk (d : S2) (hd : dOk d) (w : World) : Calls Tryz.prog 100 #[.agg #[.int .i64 d.lo, .int .i64 d.hi]] w fun e w' => e = .returned (.int .i64 (apartZ d)) ∧ Ext w w' := by
  obtain ⟨a, b⟩ := d
  unfold dOk at hd
  dsimp only at hd
  obtain ⟨⟨h1, h2⟩, h3, h4⟩ := hd
  obtain ⟨r, hr⟩ : ∃ r, apartZ ⟨a, b⟩ = r := ⟨_, rfl⟩
  have hr' : r = if 0 < a ∧ -b ≤ a then a else if 0 < -b then -b else 0 := by rw [← hr]; rfl
  rw [hr]
  have HR := Lib.hid hr'
  clear hr hr'
  rcases Int.lt_trichotomy a (-b) with m | m | m
  all_goals rcases Int.lt_trichotomy a 0 with n | n | n
  all_goals rcases Int.lt_trichotomy (-b) 0 with k | k | k
  all_goals (try (exfalso; omega))
  all_goals
    go_enter Tryz.func100, Tryz.ntmps100
    go_wp2
    go_ret
    refine ⟨ret_eq ?_, (by repeat (first | with_reducible exact Ext.refl _ | with_reducible assumption | with_reducible apply Ext.alloc | with_reducible apply Ext.drew | (with_reducible refine Ext.setCell ?_ (by (try simp) <;> omega) _)))⟩
    have h9 := HR.out
    clear HR
    (repeat' split at h9) <;> omega

def shownB (d : S2) (b : Int) : Bool := decide (farZ d ≤ b * 10000)
def deniedB (d : S2) (b : Int) : Bool := decide (b * 10000 < apartZ d)
set_option maxRecDepth 100000 in
theorem shown_walk (d : S2) (hd : dOk d) (b : Int) (hb : -1000000000 ≤ b ∧ b ≤ 1000000000) (w : World) : Calls Tryz.prog 102 #[.agg #[.int .i64 d.lo, .int .i64 d.hi], .int .i64 b] w fun e w' => e = .returned (.bool (shownB d b)) ∧ Ext w w' := by
  have FW := Lib.hid fun w => far_walk d hd w
  obtain ⟨r, hr⟩ : ∃ r, farZ d = r := ⟨_, rfl⟩
  have HS : Hid (shownB d b = decide (r ≤ b * 10000)) := Lib.hid (by unfold shownB; rw [hr])
  have HR := Lib.hid hr
  clear hr hd
  obtain ⟨h1, h2⟩ := hb
  go_enter Tryz.func102, Tryz.ntmps102
  go_wp2_with fail
  refine (FW.out _).mono ?_
  rw [HR.out]
  rintro e w1 ⟨rfl, x1⟩
  have X1 : Ext w w1 := Ext.trans (by repeat (first | with_reducible exact Ext.refl _ | with_reducible assumption | with_reducible apply Ext.alloc | with_reducible apply Ext.drew | (with_reducible refine Ext.setCell ?_ (by (try simp) <;> omega) _))) x1
  go_wp2
  go_ret
  exact ⟨by rw [HS.out] <;> rfl, X1⟩
set_option maxRecDepth 100000 in
theorem denied_walk (d : S2) (hd : dOk d) (b : Int) (hb : -1000000000 ≤ b ∧ b ≤ 1000000000) (w : World) : Calls Tryz.prog 103 #[.agg #[.int .i64 d.lo, .int .i64 d.hi], .int .i64 b] w fun e w' => e = .returned (.bool (deniedB d b)) ∧ Ext w w' := by
  have FW := Lib.hid fun w => apart_walk d hd w
  obtain ⟨r, hr⟩ : ∃ r, apartZ d = r := ⟨_, rfl⟩
  have HS : Hid (deniedB d b = decide (b * 10000 < r)) := Lib.hid (by unfold deniedB; rw [hr])
  have HR := Lib.hid hr
  clear hr hd
  obtain ⟨h1, h2⟩ := hb
  go_enter Tryz.func103, Tryz.ntmps103
  go_wp2_with fail
  refine (FW.out _).mono ?_
  rw [HR.out]
  rintro e w1 ⟨rfl, x1⟩
  have X1 : Ext w w1 := Ext.trans (by repeat (first | with_reducible exact Ext.refl _ | with_reducible assumption | with_reducible apply Ext.alloc | with_reducible apply Ext.drew | (with_reducible refine Ext.setCell ?_ (by (try simp) <;> omega) _))) x1
  go_wp2
  go_ret
  exact ⟨by rw [HS.out] <;> rfl, X1⟩

set_option maxRecDepth 100000 in
set_option maxHeartbeats 2000000 in
theorem verdict_walk (d : S2) (hd : dOk d) (b : Int) (hb : -1000000000 ≤ b ∧ b ≤ 1000000000) (w : World) : Calls Tryz.prog 99 #[.agg #[.int .i64 d.lo, .int .i64 d.hi], .int .i64 b] w fun e w' => e = .returned (.int .i64 (verdZ d b)) ∧ Ext w w' := by
  have SW := Lib.hid fun w => shown_walk d hd b hb w
  have DW := Lib.hid fun w => denied_walk d hd b hb w
  have HV : Hid (verdZ d b = if shownB d b = true then 1 else if deniedB d b = true then 2 else 3) := Lib.hid (by unfold verdZ shownB deniedB; simp only [decide_eq_true_eq])
  clear hd hb
  go_enter Tryz.func99, Tryz.ntmps99
  go_wp2_with fail
  have b0 := block_alloc (block_new w (.cells (#[.int .i64 d.lo, .int .i64 d.hi] : Array Value) 183)) (.cells #[.int .i64 1, .func (.func 102) #[] #[], .int .i64 2, .func (.func 103) #[] #[]] 192)
  have b1 := block_at (w := w.alloc (.cells (#[.int .i64 d.lo, .int .i64 d.hi] : Array Value) 183)) (n := w.heap.size + 1) (by simp) (.cells #[.int .i64 1, .func (.func 102) #[] #[], .int .i64 2, .func (.func 103) #[] #[]] 192)
  have XW : Ext w ((w.alloc (.cells (#[.int .i64 d.lo, .int .i64 d.hi] : Array Value) 183)).alloc (.cells #[.int .i64 1, .func (.func 102) #[] #[], .int .i64 2, .func (.func 103) #[] #[]] 192)) := (by repeat (first | with_reducible exact Ext.refl _ | with_reducible assumption | with_reducible apply Ext.alloc | with_reducible apply Ext.drew | (with_reducible refine Ext.setCell ?_ (by (try simp) <;> omega) _)))
  obtain ⟨W, hW⟩ : ∃ W, (w.alloc (.cells (#[.int .i64 d.lo, .int .i64 d.hi] : Array Value) 183)).alloc (.cells #[.int .i64 1, .func (.func 102) #[] #[], .int .i64 2, .func (.func 103) #[] #[]] 192) = W := ⟨_, rfl⟩
  obtain ⟨B, hB⟩ : ∃ B, w.heap.size = B := ⟨_, rfl⟩
  rw [hW] at b0 b1 XW ⊢
  rw [hB] at b0 b1 ⊢
  clear hW hB
  go_loopw [11] (fun i wr => ∃ k : Nat, k ≤ 2 ∧ i = .int .i64 k ∧ Hid (0 < k → shownB d b = false) ∧ Hid (1 < k → deniedB d b = false) ∧ Ext W wr) (fun i _ => 2 - (intOf i).toNat)
  case atStart => exact ⟨0, by omega, rfl, Lib.hid (fun h => by omega), Lib.hid (fun h => by omega), Ext.refl _⟩
  case round =>
    obtain ⟨k, hk, rfl, H1, H2, X⟩ := hrel
    have c0 := block_cell (block_ext X b0) 0 _ rfl
    have c1 := block_cell (block_ext X b0) 1 _ rfl
    have d0 := block_cell (block_ext X b1) 0 _ rfl
    have d1 := block_cell (block_ext X b1) 1 _ rfl
    have d2 := block_cell (block_ext X b1) 2 _ rfl
    have d3 := block_cell (block_ext X b1) 3 _ rfl
    rcases (show k = 0 ∨ k = 1 ∨ k = 2 by omega) with rfl | rfl | rfl
    · have e0 := Ext.alloc' wr (.cells #[.int .i64 0, Value.nilFunc] 192)
      have bz := block_new wr (.cells #[.int .i64 0, Value.nilFunc] 192)
      have e1 := (e0.setRow (g := wr.heap.size) (Nat.le_refl _) #[.int .i64 1, .func (.func 102) #[] #[]])
      have bn := setRow_at bz #[.int .i64 1, .func (.func 102) #[] #[]]
      have k0 := e1.cell c0; have k1 := e1.cell c1
      have n0 := block_cell bn 0 _ rfl; have n1 := block_cell bn 1 _ rfl
      have BN := Lib.hid bn
      clear bn e0
      go_wp2_with (first | (refine wpList_store_row rfl _ _ _ rfl wr.heap.size _ rfl rfl _ _ bz (by kernel_rfl) rfl (by simp [Value.oneCell']) ?_) | fail)
      refine (SW.out _).mono ?_
      cases hs : shownB d b with
      | true =>
        have HR : Hid (verdZ d b = 1) := Lib.hid (by rw [HV.out, if_pos hs])
        clear hs
        rintro e w5 ⟨rfl, x5⟩
        have m0 := block_cell (block_ext x5 BN.out) 0 _ rfl
        clear c0 c1 d0 d1 d2 d3 k0 k1 n0 n1 bz
        go_wp2
        go_ret
        exact ⟨by rw [HR.out] <;> rfl, XW.trans (X.trans (e1.trans x5))⟩
      | false =>
        have HS := Lib.hid hs
        clear hs
        rintro e w5 ⟨rfl, x5⟩
        clear c0 c1 d0 d1 d2 d3 k0 k1 n0 n1 bz
        go_wp2
        go_roundw
        case rel => exact ⟨1, by omega, by first | rfl | go_num, Lib.hid (fun _ => HS.out), Lib.hid (fun h => by omega), X.trans (e1.trans x5)⟩
        case measure => simp [intOf] <;> omega
    · have e0 := Ext.alloc' wr (.cells #[.int .i64 0, Value.nilFunc] 192)
      have bz := block_new wr (.cells #[.int .i64 0, Value.nilFunc] 192)
      have e1 := (e0.setRow (g := wr.heap.size) (Nat.le_refl _) #[.int .i64 2, .func (.func 103) #[] #[]])
      have bn := setRow_at bz #[.int .i64 2, .func (.func 103) #[] #[]]
      have k0 := e1.cell c0; have k1 := e1.cell c1
      have n0 := block_cell bn 0 _ rfl; have n1 := block_cell bn 1 _ rfl
      have BN := Lib.hid bn
      clear bn e0
      go_wp2_with (first | (refine wpList_store_row rfl _ _ _ rfl wr.heap.size _ rfl rfl _ _ bz (by kernel_rfl) rfl (by simp [Value.oneCell']) ?_) | fail)
      refine (DW.out _).mono ?_
      cases hs : deniedB d b with
      | true =>
        have HR : Hid (verdZ d b = 2) := Lib.hid (by rw [HV.out, if_neg (by rw [H1.out (by omega)]; simp), if_pos hs])
        clear hs
        rintro e w5 ⟨rfl, x5⟩
        have m0 := block_cell (block_ext x5 BN.out) 0 _ rfl
        clear c0 c1 d0 d1 d2 d3 k0 k1 n0 n1 bz
        go_wp2
        go_ret
        exact ⟨by rw [HR.out] <;> rfl, XW.trans (X.trans (e1.trans x5))⟩
      | false =>
        have HS := Lib.hid hs
        clear hs
        rintro e w5 ⟨rfl, x5⟩
        clear c0 c1 d0 d1 d2 d3 k0 k1 n0 n1 bz
        go_wp2
        go_roundw
        case rel => exact ⟨2, by omega, by first | rfl | go_num, Lib.hid (fun _ => H1.out (by omega)), Lib.hid (fun _ => HS.out), X.trans (e1.trans x5)⟩
        case measure => simp [intOf] <;> omega
    · have HR : Hid (verdZ d b = 3) := Lib.hid (by rw [HV.out, if_neg (by rw [H1.out (by omega)]; simp), if_neg (by rw [H2.out (by omega)]; simp)])
      clear c0 c1 d0 d1 d2 d3
      go_wp2
      go_ret
      exact ⟨by rw [HR.out] <;> rfl, XW.trans X⟩
end Go.Proofs.YthpfalbeieloaaaGreatDoor
