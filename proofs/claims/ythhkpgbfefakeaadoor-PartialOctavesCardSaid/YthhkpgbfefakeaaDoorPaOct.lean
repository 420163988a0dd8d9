/-
  Proved: 'PartialOctaves' returns true for every input and leaves its arguments as they were. No condition.
-/
import Derived.Test.YthhkpgbfefakeaaDoorPaL
namespace Go.Proofs.YthhkpgbfefakeaaDoor
open Go.RowKit Go.Sx Go.Sx.Sz Go.ChangeShapes Go.WideShapes Go.ChangeAt

theorem rootR_snd {r : Row} : (rootR r).2 = if rowOk r = true then 0 else 1 := by
  unfold rootR; split <;> rfl

set_option maxHeartbeats 2000000 in
theorem oct_walk (r : Row) (w : World) (G : Gv 0 1 w) :
    Calls Tryd.prog 3 #[.agg #[.int .i64 r.h, .int .i64 r.lo, .int .i64 r.hi]] w fun e w' => e = .returned (.bool true) ∧ Ext w w' := by
  cases hr : rowOk r with
  | false =>
    have HR := Lib.hid (rootR_no hr)
    clear hr
    go_enter Tryd.func3, Tryd.ntmps3
    go_wp2_with fail
    refine (head_walk _ (G.ext (by repeat (first | with_reducible exact Ext.refl _ | with_reducible assumption | with_reducible apply Ext.alloc | with_reducible apply Ext.drew | (with_reducible refine Ext.setCell ?_ (by (try simp) <;> omega) _))))).mono ?_
    rintro e w1 ⟨rfl, x1⟩
    obtain ⟨hc1, hf1⟩ := x1.rules
    have hz1_0 : w.heap.size < w1.heap.size := by have := x1.size; (try simp at this); omega
    obtain ⟨hl1_0, hl1_1, hl1_2, hl1_3⟩ : w.heap.size < w1.heap.size + 1 ∧ w.heap.size < w1.heap.size + 1 + 1 ∧ w.heap.size < w1.heap.size + 1 + 1 + 1 ∧ ¬ w.heap.size = w1.heap.size := by omega
    have X1 : Ext w w1 := Ext.trans (by repeat (first | with_reducible exact Ext.refl _ | with_reducible assumption | with_reducible apply Ext.alloc | with_reducible apply Ext.drew | (with_reducible refine Ext.setCell ?_ (by (try simp) <;> omega) _))) x1
    go_wp2_with fail
    refine (root_walk r _ (G.ext (by repeat (first | with_reducible exact Ext.refl _ | with_reducible assumption | with_reducible apply Ext.alloc | with_reducible apply Ext.drew | (with_reducible refine Ext.setCell ?_ (by (try simp) <;> omega) _))))).mono ?_
    rw [HR.out]
    rintro e w2 ⟨rfl, x2⟩
    obtain ⟨hc2, hf2⟩ := x2.rules
    have hz2_0 : w.heap.size < w2.heap.size := by have := x2.size; (try simp at this); omega
    obtain ⟨hl2_0, hl2_1, hl2_2, hl2_3⟩ : w.heap.size < w2.heap.size + 1 ∧ w.heap.size < w2.heap.size + 1 + 1 ∧ w.heap.size < w2.heap.size + 1 + 1 + 1 ∧ ¬ w.heap.size = w2.heap.size := by omega
    have X2 : Ext w w2 := Ext.trans (by repeat (first | with_reducible exact Ext.refl _ | with_reducible assumption | with_reducible apply Ext.alloc | with_reducible apply Ext.drew | (with_reducible refine Ext.setCell ?_ (by (try simp) <;> omega) _))) x2
    go_wp2
    go_ret
    exact ⟨rfl, (by repeat (first | with_reducible exact Ext.refl _ | with_reducible assumption | with_reducible apply Ext.alloc | with_reducible apply Ext.drew | (with_reducible refine Ext.setCell ?_ (by (try simp) <;> omega) _)))⟩
  | true =>
    have HR : Hid (rootR r = (rootS r, 0)) := Lib.hid (by rw [rootR, if_pos hr])
    have hb := rowOk_iff.1 hr
    obtain ⟨b1, b2, b3, b4, b5⟩ := hb
    by_cases h8 : r.h ≤ 8
    · obtain ⟨q, hq⟩ : ∃ q : Row, q = ⟨2 * r.h, r.lo + 12000000000, r.hi + 12000000000⟩ := ⟨_, rfl⟩
      have h2 := harmS_two b1 h8
      by_cases hh : r.hi + 12000000000 ≤ 10000000000000
      · have hqo : rowOk q = true := by rw [hq, rowOk_iff]; simp only; omega
        have hqs : rootS q = rootS r := by
          rw [hq]
          simp only [rootS, subS, h2.1, h2.2, S2.mk.injEq]
          omega
        have HQ : Hid (rootR ⟨2 * r.h, r.lo + 12000000000, r.hi + 12000000000⟩ = (rootS r, 0)) := Lib.hid (by rw [← hq, rootR, if_pos hqo, hqs])
        clear hr hq hqo hqs h2
        obtain ⟨s, hs⟩ : ∃ s, rootS r = s := ⟨_, rfl⟩
        rw [hs] at HR HQ
        clear hs
        go_enter Tryd.func3, Tryd.ntmps3
        go_wp2_with fail
        refine (head_walk _ (G.ext (by repeat (first | with_reducible exact Ext.refl _ | with_reducible assumption | with_reducible apply Ext.alloc | with_reducible apply Ext.drew | (with_reducible refine Ext.setCell ?_ (by (try simp) <;> omega) _))))).mono ?_
        rintro e w1 ⟨rfl, x1⟩
        obtain ⟨hc1, hf1⟩ := x1.rules
        have hz1_0 : w.heap.size < w1.heap.size := by have := x1.size; (try simp at this); omega
        obtain ⟨hl1_0, hl1_1, hl1_2, hl1_3⟩ : w.heap.size < w1.heap.size + 1 ∧ w.heap.size < w1.heap.size + 1 + 1 ∧ w.heap.size < w1.heap.size + 1 + 1 + 1 ∧ ¬ w.heap.size = w1.heap.size := by omega
        have X1 : Ext w w1 := Ext.trans (by repeat (first | with_reducible exact Ext.refl _ | with_reducible assumption | with_reducible apply Ext.alloc | with_reducible apply Ext.drew | (with_reducible refine Ext.setCell ?_ (by (try simp) <;> omega) _))) x1
        go_wp2_with fail
        refine (root_walk r _ (G.ext (by repeat (first | with_reducible exact Ext.refl _ | with_reducible assumption | with_reducible apply Ext.alloc | with_reducible apply Ext.drew | (with_reducible refine Ext.setCell ?_ (by (try simp) <;> omega) _))))).mono ?_
        rw [HR.out]
        rintro e w2 ⟨rfl, x2⟩
        obtain ⟨hc2, hf2⟩ := x2.rules
        have hz2_0 : w.heap.size < w2.heap.size := by have := x2.size; (try simp at this); omega
        obtain ⟨hl2_0, hl2_1, hl2_2, hl2_3⟩ : w.heap.size < w2.heap.size + 1 ∧ w.heap.size < w2.heap.size + 1 + 1 ∧ w.heap.size < w2.heap.size + 1 + 1 + 1 ∧ ¬ w.heap.size = w2.heap.size := by omega
        have X2 : Ext w w2 := Ext.trans (by repeat (first | with_reducible exact Ext.refl _ | with_reducible assumption | with_reducible apply Ext.alloc | with_reducible apply Ext.drew | (with_reducible refine Ext.setCell ?_ (by (try simp) <;> omega) _))) x2
        go_wp2_with fail
        refine (root_walk ⟨2 * r.h, r.lo + 12000000000, r.hi + 12000000000⟩ _ (G.ext (by repeat (first | with_reducible exact Ext.refl _ | with_reducible assumption | with_reducible apply Ext.alloc | with_reducible apply Ext.drew | (with_reducible refine Ext.setCell ?_ (by (try simp) <;> omega) _))))).mono ?_
        rw [HQ.out]
        rintro e w3 ⟨rfl, x3⟩
        obtain ⟨hc3, hf3⟩ := x3.rules
        have hz3_0 : w.heap.size < w3.heap.size := by have := x3.size; (try simp at this); omega
        obtain ⟨hl3_0, hl3_1, hl3_2, hl3_3⟩ : w.heap.size < w3.heap.size + 1 ∧ w.heap.size < w3.heap.size + 1 + 1 ∧ w.heap.size < w3.heap.size + 1 + 1 + 1 ∧ ¬ w.heap.size = w3.heap.size := by omega
        have X3 : Ext w w3 := Ext.trans (by repeat (first | with_reducible exact Ext.refl _ | with_reducible assumption | with_reducible apply Ext.alloc | with_reducible apply Ext.drew | (with_reducible refine Ext.setCell ?_ (by (try simp) <;> omega) _))) x3
        have hk2 : w2.heap.size < w3.heap.size := by have := x3.size; (try simp at this); omega
        go_wp2
        go_ret
        exact ⟨by simp, (by repeat (first | with_reducible exact Ext.refl _ | with_reducible assumption | with_reducible apply Ext.alloc | with_reducible apply Ext.drew | (with_reducible refine Ext.setCell ?_ (by (try simp) <;> omega) _)))⟩
      · have HQ : Hid (rootR ⟨2 * r.h, r.lo + 12000000000, r.hi + 12000000000⟩ = (zeroS, 1)) := Lib.hid (rootR_no (by rw [rowOk]; simp; omega))
        clear hr hq h2
        obtain ⟨s, hs⟩ : ∃ s, rootS r = s := ⟨_, rfl⟩
        rw [hs] at HR
        clear hs
        go_enter Tryd.func3, Tryd.ntmps3
        go_wp2_with fail
        refine (head_walk _ (G.ext (by repeat (first | with_reducible exact Ext.refl _ | with_reducible assumption | with_reducible apply Ext.alloc | with_reducible apply Ext.drew | (with_reducible refine Ext.setCell ?_ (by (try simp) <;> omega) _))))).mono ?_
        rintro e w1 ⟨rfl, x1⟩
        obtain ⟨hc1, hf1⟩ := x1.rules
        have hz1_0 : w.heap.size < w1.heap.size := by have := x1.size; (try simp at this); omega
        obtain ⟨hl1_0, hl1_1, hl1_2, hl1_3⟩ : w.heap.size < w1.heap.size + 1 ∧ w.heap.size < w1.heap.size + 1 + 1 ∧ w.heap.size < w1.heap.size + 1 + 1 + 1 ∧ ¬ w.heap.size = w1.heap.size := by omega
        have X1 : Ext w w1 := Ext.trans (by repeat (first | with_reducible exact Ext.refl _ | with_reducible assumption | with_reducible apply Ext.alloc | with_reducible apply Ext.drew | (with_reducible refine Ext.setCell ?_ (by (try simp) <;> omega) _))) x1
        go_wp2_with fail
        refine (root_walk r _ (G.ext (by repeat (first | with_reducible exact Ext.refl _ | with_reducible assumption | with_reducible apply Ext.alloc | with_reducible apply Ext.drew | (with_reducible refine Ext.setCell ?_ (by (try simp) <;> omega) _))))).mono ?_
        rw [HR.out]
        rintro e w2 ⟨rfl, x2⟩
        obtain ⟨hc2, hf2⟩ := x2.rules
        have hz2_0 : w.heap.size < w2.heap.size := by have := x2.size; (try simp at this); omega
        obtain ⟨hl2_0, hl2_1, hl2_2, hl2_3⟩ : w.heap.size < w2.heap.size + 1 ∧ w.heap.size < w2.heap.size + 1 + 1 ∧ w.heap.size < w2.heap.size + 1 + 1 + 1 ∧ ¬ w.heap.size = w2.heap.size := by omega
        have X2 : Ext w w2 := Ext.trans (by repeat (first | with_reducible exact Ext.refl _ | with_reducible assumption | with_reducible apply Ext.alloc | with_reducible apply Ext.drew | (with_reducible refine Ext.setCell ?_ (by (try simp) <;> omega) _))) x2
        go_wp2_with fail
        refine (root_walk ⟨2 * r.h, r.lo + 12000000000, r.hi + 12000000000⟩ _ (G.ext (by repeat (first | with_reducible exact Ext.refl _ | with_reducible assumption | with_reducible apply Ext.alloc | with_reducible apply Ext.drew | (with_reducible refine Ext.setCell ?_ (by (try simp) <;> omega) _))))).mono ?_
        rw [HQ.out]
        rintro e w3 ⟨rfl, x3⟩
        obtain ⟨hc3, hf3⟩ := x3.rules
        have hz3_0 : w.heap.size < w3.heap.size := by have := x3.size; (try simp at this); omega
        obtain ⟨hl3_0, hl3_1, hl3_2, hl3_3⟩ : w.heap.size < w3.heap.size + 1 ∧ w.heap.size < w3.heap.size + 1 + 1 ∧ w.heap.size < w3.heap.size + 1 + 1 + 1 ∧ ¬ w.heap.size = w3.heap.size := by omega
        have X3 : Ext w w3 := Ext.trans (by repeat (first | with_reducible exact Ext.refl _ | with_reducible assumption | with_reducible apply Ext.alloc | with_reducible apply Ext.drew | (with_reducible refine Ext.setCell ?_ (by (try simp) <;> omega) _))) x3
        have hk2 : w2.heap.size < w3.heap.size := by have := x3.size; (try simp at this); omega
        go_wp2
        all_goals go_ret
        all_goals exact ⟨by first | rfl | (simp <;> omega), (by repeat (first | with_reducible exact Ext.refl _ | with_reducible assumption | with_reducible apply Ext.alloc | with_reducible apply Ext.drew | (with_reducible refine Ext.setCell ?_ (by (try simp) <;> omega) _)))⟩
    · clear hr
      go_enter Tryd.func3, Tryd.ntmps3
      go_wp2_with fail
      refine (head_walk _ (G.ext (by repeat (first | with_reducible exact Ext.refl _ | with_reducible assumption | with_reducible apply Ext.alloc | with_reducible apply Ext.drew | (with_reducible refine Ext.setCell ?_ (by (try simp) <;> omega) _))))).mono ?_
      rintro e w1 ⟨rfl, x1⟩
      obtain ⟨hc1, hf1⟩ := x1.rules
      have hz1_0 : w.heap.size < w1.heap.size := by have := x1.size; (try simp at this); omega
      obtain ⟨hl1_0, hl1_1, hl1_2, hl1_3⟩ : w.heap.size < w1.heap.size + 1 ∧ w.heap.size < w1.heap.size + 1 + 1 ∧ w.heap.size < w1.heap.size + 1 + 1 + 1 ∧ ¬ w.heap.size = w1.heap.size := by omega
      have X1 : Ext w w1 := Ext.trans (by repeat (first | with_reducible exact Ext.refl _ | with_reducible assumption | with_reducible apply Ext.alloc | with_reducible apply Ext.drew | (with_reducible refine Ext.setCell ?_ (by (try simp) <;> omega) _))) x1
      go_wp2_with fail
      refine (root_walk r _ (G.ext (by repeat (first | with_reducible exact Ext.refl _ | with_reducible assumption | with_reducible apply Ext.alloc | with_reducible apply Ext.drew | (with_reducible refine Ext.setCell ?_ (by (try simp) <;> omega) _))))).mono ?_
      rw [HR.out]
      rintro e w2 ⟨rfl, x2⟩
      obtain ⟨hc2, hf2⟩ := x2.rules
      have hz2_0 : w.heap.size < w2.heap.size := by have := x2.size; (try simp at this); omega
      obtain ⟨hl2_0, hl2_1, hl2_2, hl2_3⟩ : w.heap.size < w2.heap.size + 1 ∧ w.heap.size < w2.heap.size + 1 + 1 ∧ w.heap.size < w2.heap.size + 1 + 1 + 1 ∧ ¬ w.heap.size = w2.heap.size := by omega
      have X2 : Ext w w2 := Ext.trans (by repeat (first | with_reducible exact Ext.refl _ | with_reducible assumption | with_reducible apply Ext.alloc | with_reducible apply Ext.drew | (with_reducible refine Ext.setCell ?_ (by (try simp) <;> omega) _))) x2
      go_wp2
      go_ret
      exact ⟨rfl, (by repeat (first | with_reducible exact Ext.refl _ | with_reducible assumption | with_reducible apply Ext.alloc | with_reducible apply Ext.drew | (with_reducible refine Ext.setCell ?_ (by (try simp) <;> omega) _)))⟩

theorem partialOctaves_args (H : Type) (enc : TypeId × Value → H) (W : World) (base : Nat) (vs : List Value) (ds : List (DataW H)) (_ : ∀ k, (OpenSpec.ofChange Rows.partialOctavesSpec).cond = some k → k H ds = true) (hL : laidMetH Tryd.prog Rows.partialOctavesRow.laid W) (hA : Args enc Tryd.prog W base Tryd.f3.params.toList vs ds) :
    Calls Tryd.prog 3 vs.toArray W fun e W' => e = .returned (.bool true) ∧ Ext W W' := by
  rw [Tryd.params3] at hA
  obtain ⟨v0, _, d0, _, rfl, rfl, h0, hA⟩ := hA.cons
  obtain ⟨rfl, rfl⟩ := hA.nil
  obtain ⟨r, rfl, _⟩ := arg_row h0
  exact oct_walk r W (gv_of hL)

theorem partialOctaves_met (os : Os) : laidMet Tryd.prog Rows.partialOctavesRow.laid ((laidWorld os).forCall (fun _ _ => 0) ⟨#[], #[.agg #[.int .i64 0, .int .i64 0, .int .i64 0]], []⟩).memory := laidMet_of_run' 8 (by kernel_rfl) (by kernel_rfl)
theorem partialOctaves_reads (os : Os) {H : Type} (enc : TypeId × Value → H) : ∃ places, DataW.whole enc Tryd.prog ((laidWorld os).forCall (fun _ _ => 0) ⟨#[], #[.agg #[.int .i64 0, .int .i64 0, .int .i64 0]], []⟩).memory Tryd.f3.params.toList Rows.partialOctavesSpec.vars false #[.agg #[.int .i64 0, .int .i64 0, .int .i64 0]].toList 8 = some ([.agg [.lit (.int .i64 0), .lit (.int .i64 0), .lit (.int .i64 0)]], [], places) := ⟨[], by kernel_rfl⟩
set_option maxRecDepth 100000 in
theorem partialOctaves_lifted (os : Os) (started : os.Started) (H : Type) (enc : TypeId × Value → H) (F : Stop.Interp) :
    ReturnsInHanded {} Tryd.checked os 3 .any ((OpenSpec.ofChange Rows.partialOctavesSpec).preRow enc Tryd.prog Tryd.f3 Rows.partialOctavesRow.domain false Rows.partialOctavesRow.laid) (((OpenSpec.ofChange Rows.partialOctavesSpec).at F).post enc Tryd.prog Tryd.f3 false true false false) := by
  obtain ⟨places, hx⟩ := partialOctaves_reads os enc
  exact law_row (C := Tryd.checked) (s := (OpenSpec.ofChange Rows.partialOctavesSpec)) (by kernel_rfl) started (by kernel_rfl) Tryd.func3
    (witness_row_at (enc := enc) (C := Tryd.checked) false (laidWorld os) #[.agg #[.int .i64 0, .int .i64 0, .int .i64 0]] rfl (by kernel_rfl) (by kernel_rfl) (by kernel_rfl) (OpenSpec.preRow_of_cond 8 hx (by kernel_rfl) (fun k hk => by cases hk) (by kernel_rfl) (partialOctaves_met os)))
    (by kernel_rfl) (by kernel_rfl) (by kernel_rfl) rfl (fun ds h => by match ds, h with | [_], _ => rfl) (partialOctaves_args H enc)
theorem partialOctaves_said : Rows.PartialOctavesSaid :=
  OpenClaim.holds_of_cond 3 Tryd.f3 rfl rfl rfl rfl rfl rfl rfl ⟨rfl, rfl, rfl, rfl, rfl⟩ rfl rfl rfl rfl rfl (by kernel_rfl) Tryd.func3 (by kernel_rfl)
    (of_decide_eq_true (by kernel_rfl)) (by unfold Func.isWrapper; first | (rw [if_pos (by decide +kernel)]; kernel_rfl) | (rw [if_neg (by decide +kernel)]; exact ⟨rfl, rfl⟩))
    (fun os started H enc _ F => by rw [OpenClaim.pre_eq_preRow]; exact partialOctaves_lifted os started H enc F)
theorem partialOctaves_plain (f : FuncId) (fn : Func) (hf : Tryd.pinned.checked.prog.funcNamed "schisma/schismalaw37.PartialOctaves" = some f) (hfn : Tryd.pinned.checked.prog.funcs[f]? = some fn) :
    false = Tryd.pinned.checked.prog.looks [] ∧ ∀ (j : Nat) t, fn.params[j]? = some t → Tryd.pinned.checked.prog.wantsStandIn t = false := by
  obtain rfl : f = 3 := Option.some.inj ((show Tryd.prog.funcNamed "schisma/schismalaw37.PartialOctaves" = some 3 by kernel_rfl).symm.trans hf) |>.symm
  obtain rfl : fn = Tryd.f3 := (Option.some.inj (Tryd.func3.symm.trans hfn)).symm
  refine ⟨by kernel_rfl, fun j t ht => ?_⟩
  have hall : Tryd.f3.params.all (fun t => !Tryd.prog.wantsStandIn t) = true := by kernel_rfl
  have := (Array.all_eq_true'.1 hall) t (Array.mem_of_getElem? ht)
  have e : Tryd.prog.wantsStandIn t = false := by simpa using this
  exact e
/-- The card. -/
theorem partialOctaves_holds : Rows.PartialOctavesCardSaid :=
  Claim7.holds_tied_plain_at .later [] _ _ _ _ partialOctaves_said (fun _ h => by cases h) (by kernel_rfl) (fun _ h => by cases h) partialOctaves_row_tie rfl ⟨rfl, rfl⟩ (by kernel_rfl) rfl partialOctaves_plain (by kernel_rfl)
end Go.Proofs.YthhkpgbfefakeaaDoor
