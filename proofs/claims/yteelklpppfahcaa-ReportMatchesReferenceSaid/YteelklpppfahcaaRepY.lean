/-
  Walk: the reference's Shows.
-/
import Derived.Test.YteelklpppfahcaaRepX
set_option linter.unusedVariables false
namespace Go.Proofs.Yteelklpppfahcaa
open Go.RowKit Go.Sx Go.Sx.Rep

theorem size_growth : (Try.prog.info? 44).map (·.size) = some 4 := by kernel_rfl
theorem showsF_len : ∀ (f : Nat) (old : Int) (m n : Nat) (wh : Bool) (ps : List Int), (showsF f old m n wh ps).pairs.length ≤ f
  | 0, _, _, _, _, _ => Nat.le_refl _
  | f + 1, old, m, n, wh, ps => by
    unfold showsF
    have h1 := showsF_len f old m (split n) wh (ini ps)
    have h2 := showsF_len f old (m - split n) (n - split n) false (ini ps)
    split
    · split
      · simp
      · split <;> simp [shown0]
    · split
      · simp [shown0]
      · split
        · split <;> simp [shown0] <;> omega
        · split <;> simp [shown0] <;> omega

set_option maxHeartbeats 8000000 in
theorem shows_walk : ∀ (f : Nat) (old : Int) (i n : Nat) (wh : Bool) (v : Value) (ps : List Int) (w : World), n ≤ f → f ≤ 100000 → 1 ≤ i → i ≤ n → Sl w 1 encU v ps →
    Calls Try.prog 20 #[.int .u64 old, .int .i64 i, .int .i64 n, .bool wh, v] w fun e w' => ∃ p, e = .returned (.agg #[.int .u64 (showsF f old i n wh ps).old, .int .u64 (showsF f old i n wh ps).new, p, .bool (showsF f old i n wh ps).ok]) ∧
      OwnR w' w.heap.size 67 2 encP p (showsF f old i n wh ps).pairs ∧ Ext w w' := by
  intro f
  induction f with
  | zero => intro old i n wh v ps w h1 _ h2 h3; omega
  | succ f ih =>
    intro old i n wh v ps w hn hff hi1 hi S
    obtain ⟨a?, cap, rfl, h1, h2, h3⟩ := S.len
    by_cases hn1 : i = n
    · subst hn1
      have he : ((i : Int) == i) = true := beq_self_eq_true _
      cases wh with
      | true =>
        have hr : showsF (f + 1) old i i true ps = ⟨old, old, [], decide (ps.length = 0)⟩ := by unfold showsF; rw [if_pos rfl]; rfl
        have HR := Lib.hid hr
        clear hr h1 h2 S
        go_enter Try.func20, Try.ntmps20
        go_wp2
        refine bodyPost_ret (v := .agg #[.int .u64 old, .int .u64 old, .slice none 0 0, .bool ((ps.length : Int) == 0)]) ?_ rfl ⟨.slice none 0 0, ?_, ?_, ?_⟩
        · simp [results, Try.results20, go_sem]
        · rw [HR.out]
          simp only [Ending.returned.injEq, Value.agg.injEq]
          rw [show ((ps.length : Int) == 0) = decide (ps.length = 0) by rw [Bool.eq_iff_iff]; simp]
        · rw [HR.out]; exact OwnR.nil
        · exact (by repeat (first | exact Ext.refl _ | assumption | apply Ext.alloc | apply Ext.drew | (refine Ext.setCell ?_ (by simp) _)))
      | false =>
        by_cases hl : ps.length = 1
        · have hr : showsF (f + 1) old i i false ps = ⟨ps.headD 0, ps.headD 0, [], true⟩ := by unfold showsF; rw [if_pos rfl, if_neg (by decide), if_neg (by omega)]
          have hl' : ((ps.length : Int) != 1) = false := by rw [bne_eq_false_iff_eq]; omega
          obtain ⟨b0, o0, rfl, hz⟩ := S.at1 0 (by omega)
          obtain ⟨x, rfl⟩ := List.length_eq_one_iff.1 hl
          simp only [encU, List.getD_cons_zero, List.getElem_cons_zero, Nat.add_zero] at hz
          have gz := (Ext.alloc' w (.cells #[.int .u64 0, .int .u64 0, .slice none 0 0, .bool false] 44)).cell hz
          have gy := ext_cells gz
          have HR := Lib.hid hr
          clear hr h1 h2 S hz
          obtain ⟨w1, hw1⟩ : ∃ x, w.alloc (.cells #[.int .u64 0, .int .u64 0, .slice none 0 0, .bool false] 44) = x := ⟨_, rfl⟩
          have b1 := World.alloc_heap_new w (.cells #[.int .u64 0, .int .u64 0, .slice none 0 0, .bool false] 44)
          have X1 := Ext.alloc' w (.cells #[.int .u64 0, .int .u64 0, .slice none 0 0, .bool false] 44)
          rw [hw1] at gz gy b1 X1
          have HW := Lib.hid hw1
          clear hw1
          go_enter Try.func20, Try.ntmps20
          go_wp2_with (first | (rw [HW.out]) | fail)
          refine wp_region_ord [(0,true),(1,true),(2,true),(3,true),(4,true),(5,true)] 6 Ext (Ext w1) wide (by kernel_rfl) (stable_ext _) (Ext.drawn _ _) ?_
          iterate 6 (apply wpOrd_det rfl rfl; (intro w' hw'; unfold opR; go_simp; exact ⟨Ext.refl _, rfl⟩); (simp only [List.getElem_toArray, List.getElem_cons_succ, List.getElem_cons_zero, Act.put, List.setIfInBounds_toArray, List.set_cons_succ, List.set_cons_zero]; rfl))
          refine wpOrd_nil (l := [_, _]) rfl ?_
          intro w2 hw2
          have r1 := (hw2.block w.heap.size (by rw [← HW.out]; simp)).trans b1
          have r2 := setRow_at r1 #[.int .u64 x, .int .u64 x, .slice none 0 0, .bool true]
          have X2 := (X1.trans hw2).setRow (show w.heap.size ≤ w.heap.size by omega) #[.int .u64 x, .int .u64 x, .slice none 0 0, .bool true]
          have k0 := row_at r2 0 (.int .u64 x) rfl
          have k1 := row_at r2 1 (.int .u64 x) rfl
          have k2 := row_at r2 2 (.slice none 0 0) rfl
          have k3 := row_at r2 3 (.bool true) rfl
          go_wp2_with (first | (refine wpList_store_row rfl _ _ _ rfl w.heap.size _ rfl rfl _ _ r1 size_growth rfl (by simp [Value.oneCell']) ?_) | fail)
          refine bodyPost_ret (v := .agg #[.int .u64 x, .int .u64 x, .slice none 0 0, .bool true]) ?_ rfl ⟨.slice none 0 0, ?_, ?_, ?_⟩
          · simp [results, Try.results20, go_sem, k0, k1, k2, k3]
          · rw [HR.out]; rfl
          · rw [HR.out]; exact OwnR.nil
          · exact X2
        · have hr : showsF (f + 1) old i i false ps = shown0 := by unfold showsF; rw [if_pos rfl, if_neg (by decide), if_pos hl]
          have hl' : ((ps.length : Int) != 1) = true := by rw [bne_iff_ne]; omega
          have HR := Lib.hid hr
          clear hr h1 h2 S
          go_enter Try.func20, Try.ntmps20
          go_wp2
          refine bodyPost_ret (v := .agg #[.int .u64 0, .int .u64 0, .slice none 0 0, .bool false]) ?_ rfl ⟨.slice none 0 0, ?_, ?_, ?_⟩
          · simp [results, Try.results20, go_sem]
          · rw [HR.out]; rfl
          · rw [HR.out]; exact OwnR.nil
          · exact (by repeat (first | exact Ext.refl _ | assumption | apply Ext.alloc | apply Ext.drew | (refine Ext.setCell ?_ (by simp) _)))
    · have he : ((i : Int) == n) = false := by rw [beq_eq_false_iff_ne]; omega
      by_cases hp0 : ps.length = 0
      · have hr : showsF (f + 1) old i n wh ps = shown0 := by unfold showsF; rw [if_neg hn1, if_pos hp0]
        have hp0' : ((ps.length : Int) == 0) = true := by rw [beq_iff_eq]; omega
        have HR := Lib.hid hr
        clear hr h1 h2 hp0 S
        go_enter Try.func20, Try.ntmps20
        go_wp2
        refine bodyPost_ret (v := .agg #[.int .u64 0, .int .u64 0, .slice none 0 0, .bool false]) ?_ rfl ⟨.slice none 0 0, ?_, ?_, ?_⟩
        · simp [results, Try.results20, go_sem]
        · rw [HR.out]; rfl
        · rw [HR.out]; exact OwnR.nil
        · exact (by repeat (first | exact Ext.refl _ | assumption | apply Ext.alloc | apply Ext.drew | (refine Ext.setCell ?_ (by simp) _)))
      · have hp0' : ((ps.length : Int) == 0) = false := by rw [beq_eq_false_iff_ne]; omega
        have hk1 := split_pos n
        have hk2 := split_lt (n := n) (by omega)
        have RS := Lib.hid (fun w => rsplit_walk n w (by omega) (by omega))
        obtain ⟨b0, o0, rfl, hz⟩ := S.at1 (ps.length - 1) (by omega)
        have hz0 : w.cell? ⟨b0, o0 + (ps.length - 1), none⟩ = some (.int .u64 (lst ps)) := by
          rw [hz]
          simp only [encU, List.getD_cons_zero]
          unfold lst
          rw [List.getD_eq_getElem?_getD, List.getElem?_eq_getElem (by omega), Option.getD_some]
        have gz1 := (Ext.alloc' w (.cells #[.int .u64 0, .int .u64 0, .slice none 0 0, .bool false] 44)).cell hz0
        have SI := ini_sl S
        have hge : (1 : Int) ≤ ps.length := by omega
        have hge2 : 1 ≤ ps.length := by omega
        unfold maxLen at h2
        have hr : showsF (f + 1) old i n wh ps = if i ≤ split n then
      (if (showsF f old i (split n) wh (ini ps)).ok then ⟨(showsF f old i (split n) wh (ini ps)).old, node (showsF f old i (split n) wh (ini ps)).new (lst ps), (showsF f old i (split n) wh (ini ps)).pairs ++ [((showsF f old i (split n) wh (ini ps)).new, lst ps)], true⟩ else shown0)
    else
      (if (showsF f old (i - split n) (n - split n) false (ini ps)).ok then ⟨node (lst ps) (showsF f old (i - split n) (n - split n) false (ini ps)).old, node (lst ps) (showsF f old (i - split n) (n - split n) false (ini ps)).new, (showsF f old (i - split n) (n - split n) false (ini ps)).pairs ++ [(lst ps, (showsF f old (i - split n) (n - split n) false (ini ps)).new)], true⟩ else shown0) := by
          show (if i = n then _ else _) = _
          rw [if_neg hn1, if_neg hp0]
        obtain ⟨k, hk⟩ : ∃ k, split n = k := ⟨_, rfl⟩
        obtain ⟨z, hzz⟩ : ∃ z, lst ps = z := ⟨_, rfl⟩
        rw [hk] at hk1 hk2 hr
        simp only [hk] at RS
        rw [hzz] at hz0 hr gz1
        have HK := Lib.hid hk
        have HZ := Lib.hid hzz
        have IH := Lib.hid ih
        clear hz hk hzz ih hn1 S hz0
        by_cases hik : i ≤ k
        · rw [if_pos hik] at hr
          obtain ⟨⟨Od, N, prs, ok⟩, hL⟩ : ∃ r, showsF f old i k wh (ini ps) = r := ⟨_, rfl⟩
          rw [hL] at hr
          simp only [] at hr
          have HL := Lib.hid hL
          have HR := Lib.hid hr
          have R := Lib.hid (fun w' (hw : Ext w w') => (IH.out old i k wh _ (ini ps) w' (by omega) (by omega) hi1 hik (SI.ext hw)))
          clear hL hr SI IH
          go_enter Try.func20, Try.ntmps20
          go_wp2_with (go_at_call 21; go_must (refine (RS.out _).mono ?_); rintro e w1 ⟨rfl, rfl⟩)
          refine (R.out _ (Ext.alloc' w _)).mono ?_
          rw [HL.out]
          rintro e w3 ⟨p, rfl, own3, x3⟩
          simp only [World.size_alloc] at own3
          obtain ⟨pa, pn, pc, rfl⟩ := own3.shape
          have b1 : w3.heap[w.heap.size]? = some (.cells #[.int .u64 0, .int .u64 0, .slice none 0 0, .bool false] 44) := (x3.block w.heap.size (by simp)).trans (World.alloc_heap_new w _)
          have X3 : Ext w w3 := Ext.trans (Ext.alloc' w _) x3
          clear x3
          obtain ⟨C4, hC4⟩ : ∃ c : Array Value, c = #[.int .u64 Od, .int .u64 N, .slice pa pn pc, .bool ok] := ⟨_, rfl⟩
          have f1 := (Below.heap_alloc w3 (.cells C4 44) w.heap.size (by have := (Array.getElem?_eq_some_iff.1 b1).1; omega)).trans b1
          have f2 := World.alloc_heap_new w3 (.cells C4 44)
          have own5 := own3.alloc (.cells C4 44)
          have X5 := X3.alloc (.cells C4 44)
          have fr : (Value.slice pa pn pc).ownBlock ≠ some w3.heap.size := own3.fresh (Nat.le_refl _)
          have sz3 : w.heap.size < w3.heap.size := (Array.getElem?_eq_some_iff.1 b1).1
          obtain ⟨w5, hw5⟩ : ∃ x, w3.alloc (.cells C4 44) = x := ⟨_, rfl⟩
          have sz5 : w5.heap.size = w3.heap.size + 1 := by rw [← hw5]; simp
          rw [hw5] at f1 f2 own5 X5
          rw [hC4] at f2 hw5
          have HW5 := Lib.hid hw5
          clear hw5 hC4 own3 X3
          have g0 := row_at f2 0 (.int .u64 Od) rfl
          have g1 := row_at f2 1 (.int .u64 N) rfl
          have g2 := row_at f2 2 (.slice pa pn pc) rfl
          have g3 := row_at f2 3 (.bool ok) rfl
          cases ok with
          | false =>
            have X6 := X5.setRow (show w.heap.size ≤ w.heap.size by omega) #[.int .u64 0, .int .u64 0, .slice none 0 0, .bool false]
            have h1' := setRow_at f1 #[.int .u64 0, .int .u64 0, .slice none 0 0, .bool false]
            have k0 := row_at h1' 0 (.int .u64 0) rfl
            have k1 := row_at h1' 1 (.int .u64 0) rfl
            have k2 := row_at h1' 2 (.slice none 0 0) rfl
            have k3 := row_at h1' 3 (.bool false) rfl
            go_wp2_with (first
              | (rw [HW5.out])
              | (refine wpList_store_row rfl _ _ _ rfl w.heap.size _ rfl rfl _ _ f1 size_growth rfl (by simp [Value.oneCell']) ?_)
              | fail)
            refine bodyPost_ret (v := .agg #[.int .u64 0, .int .u64 0, .slice none 0 0, .bool false]) ?_ rfl ⟨.slice none 0 0, ?_, ?_, ?_⟩
            · simp [results, Try.results20, go_sem, k0, k1, k2, k3]
            · rw [HR.out]; rfl
            · rw [HR.out]; exact OwnR.nil
            · exact X6
          | true =>
            go_wp2_with (first | (rw [HW5.out]) | fail)
            obtain ⟨g, hg⟩ : ∃ g, (Value.slice pa pn pc).ownBlock = g := ⟨_, rfl⟩
            have n0 : some (w.heap.size) ≠ g := fun h => own5.apart_below (show w.heap.size < w.heap.size + 1 by omega) (hg.trans h.symm)
            have n1 : some (w3.heap.size) ≠ g := fun h => fr (hg.trans h.symm)
            have q0 := kb_cells g0 n1
            have q1 := kb_cells g1 n1
            have q2 := kb_cells g2 n1
            have sz6 := X5.size
            have hlL : prs.length ≤ f := by have := showsF_len f old i k wh (ini ps); rw [HL.out] at this; exact this
            clear g0 g1 g2 g3 f2 RS fr
            apply wp_region_ordX [(0,.det _),(1,.det _),(2,.det _),(3,.det _),(4,.det _),(5,.det _),(6,.det _),(7,.det _),(8,.det _),(9,.det _),(10,.det _),(11,.det _),
              (12,.one (fun _ => True) (fun v w' => OwnR w' (w.heap.size + 1) 67 2 encP (.slice pa pn pc) prs ∧ Sl1 w.heap.size 67 #[.int .u64 N, .int .u64 z] v w') undef trivial),
              (13,.one (fun _ => True) (fun v w' => OwnR w' (w.heap.size + 1) 67 2 encP v (prs ++ [(N, z)])) undef trivial)] 14 Ext (Kb g) (Kb g w5) (Ext w5) wide
              [(0,true),(1,true),(2,true),(3,true),(4,true),(5,true),(6,true),(7,true),(8,true),(9,true),(10,true),(11,true),(12,false),(13,false)] (by kernel_rfl) rfl (by decide) (sub_kb g) (stable_kb g w5) (stable_ext _) (Kb.drawn _ _ _) (Ext.drawn _ _) ?main
            case main =>
              iterate 5 (apply ordX_det rfl rfl; (intro w' hw'; unfold opR; go_simp; exact ⟨Ext.refl _, rfl⟩); (simp only [List.getElem_toArray, List.getElem_cons_succ, List.getElem_cons_zero, Act.put, List.setIfInBounds_toArray, List.set_cons_succ, List.set_cons_zero]; rfl))
              (apply ordX_det rfl rfl; (intro w' hw'; refine opR_call rfl (Go.Proofs.enters_of Try.func28 (by kernel_rfl) rfl) (by simp only [List.map_toArray, List.map_cons, List.map_nil, Act.eval, Array.getD_eq_getD_getElem?, List.getElem?_toArray, List.getElem?_cons_succ, List.getElem?_cons_zero, Option.getD_some]; rfl) ?_; refine (rnode_walk _ _ w').mono ?_; rintro e w4 ⟨rfl, hx⟩; exact ⟨_, rfl, hx, rfl⟩); (simp only [List.getElem_toArray, List.getElem_cons_succ, List.getElem_cons_zero, Act.put, List.setIfInBounds_toArray, List.set_cons_succ, List.set_cons_zero]; rfl))
              iterate 6 (apply ordX_det rfl rfl; (intro w' hw'; unfold opR; go_simp; exact ⟨Ext.refl _, rfl⟩); (simp only [List.getElem_toArray, List.getElem_cons_succ, List.getElem_cons_zero, Act.put, List.setIfInBounds_toArray, List.set_cons_succ, List.set_cons_zero]; rfl))
              apply ordX_one (fun v => stable_and (stable_own _ _ _ _ _ _) (stable_sl1 _ _ _ _)) rfl rfl
              · intro w' hw' hc'; unfold opR; go_simp
                exact ⟨(Ext.alloc' _ _).kb g, (own5.ext hc').alloc _, Sl1.new w' _ _ (Nat.le_trans sz6 hc'.size)⟩
              · intro v; (simp only [List.getElem_toArray, List.getElem_cons_succ, List.getElem_cons_zero, Act.put, List.setIfInBounds_toArray, List.set_cons_succ, List.set_cons_zero]; rfl)
              intro sv _
              apply ordX_one (fun v => stable_own _ _ _ _ _ v) rfl rfl
              · rintro w' hw' ⟨ho, b, rfl, hbb, hrow⟩
                refine opR_own_app et_pair _ _ rfl ho rfl [(N, z)] ⟨b, 0, none⟩ 1 rfl (by simp [encP]) (fun j u hu => row_cells hrow j u hu) (by simp [encP, Value.oneCell']) (by simp; omega) (Nat.le_trans (by omega) hw'.size) ?_
                intro v' w4 hown' hb' happ'
                exact ⟨hg ▸ happ'.kb, trivial, hown'⟩
              · intro v; (simp only [List.getElem_toArray, List.getElem_cons_succ, List.getElem_cons_zero, Act.put, List.setIfInBounds_toArray, List.set_cons_succ, List.set_cons_zero]; rfl)
              intro av _
              refine ordX_nil (l := [_, _]) rfl ?_
              rintro w6 hw6 ho6 -
              have r1 := (hw6.kept w.heap.size (by omega) n0).trans f1
              have X6 : Ext w w6 := Below.trans X5 (hw6.below sz6 (fun b hb => by subst hb; have := (World.ownsRow.lt own5 b hg).1; omega))
              obtain ⟨NN, hNN⟩ : ∃ y, node N z = y := ⟨_, rfl⟩
              have HNN := Lib.hid hNN
              rw [hNN]
              obtain ⟨OO, hOO⟩ : ∃ y, Od = y := ⟨_, rfl⟩
              have HOO := Lib.hid hOO
              rw [hOO]
              clear hNN hOO
              have r2 := setRow_at r1 #[.int .u64 OO, .int .u64 NN, av, .bool true]
              have X7 := X6.setRow (show w.heap.size ≤ w.heap.size by omega) #[.int .u64 OO, .int .u64 NN, av, .bool true]
              have own7 := ho6.setRow (ho6.apart_below (show w.heap.size < w.heap.size + 1 by omega)) #[.int .u64 OO, .int .u64 NN, av, .bool true]
              have k0 := row_at r2 0 (.int .u64 OO) rfl
              have k1 := row_at r2 1 (.int .u64 NN) rfl
              have k2 := row_at r2 2 av rfl
              have k3 := row_at r2 3 (.bool true) rfl
              obtain ⟨va, vn, vc, rfl⟩ := ho6.shape
              go_wp2_with (first
                | (refine wpList_store_row rfl _ _ _ rfl w.heap.size _ rfl rfl _ _ r1 size_growth rfl (by simp [Value.oneCell']) ?_)
                | fail)
              refine bodyPost_ret (v := .agg #[.int .u64 OO, .int .u64 NN, .slice va vn vc, .bool true]) ?_ rfl ⟨.slice va vn vc, ?_, ?_, ?_⟩
              · simp [results, Try.results20, go_sem, k0, k1, k2, k3]
              · rw [HR.out, ← HNN.out, ← HOO.out]; rfl
              · rw [HR.out]; exact own7.mono (by omega)
              · exact X7
        · rw [if_neg hik] at hr
          obtain ⟨⟨Od, N, prs, ok⟩, hL⟩ : ∃ r, showsF f old (i - k) (n - k) false (ini ps) = r := ⟨_, rfl⟩
          rw [hL] at hr
          simp only [] at hr
          have HL := Lib.hid hL
          have HR := Lib.hid hr
          have R := Lib.hid (fun w' (hw : Ext w w') => show Calls Try.prog 20 #[.int .u64 old, .int .i64 ((i : Int) - k), .int .i64 ((n : Int) - k), .bool false, .slice (some ⟨b0, o0, none⟩) (ps.length - 1) cap] w' _ by
            have h := IH.out old (i - k) (n - k) false _ (ini ps) w' (by omega) (by omega) (by omega) (by omega) (SI.ext hw)
            rw [show (((i - k : Nat)) : Int) = (i : Int) - k by omega, show (((n - k : Nat)) : Int) = (n : Int) - k by omega] at h
            exact h)
          clear hL hr SI IH
          go_enter Try.func20, Try.ntmps20
          go_wp2_with (go_at_call 21; go_must (refine (RS.out _).mono ?_); rintro e w1 ⟨rfl, rfl⟩)
          refine (R.out _ (Ext.alloc' w _)).mono ?_
          rw [HL.out]
          rintro e w3 ⟨p, rfl, own3, x3⟩
          simp only [World.size_alloc] at own3
          obtain ⟨pa, pn, pc, rfl⟩ := own3.shape
          have b1 : w3.heap[w.heap.size]? = some (.cells #[.int .u64 0, .int .u64 0, .slice none 0 0, .bool false] 44) := (x3.block w.heap.size (by simp)).trans (World.alloc_heap_new w _)
          have X3 : Ext w w3 := Ext.trans (Ext.alloc' w _) x3
          clear x3
          obtain ⟨C4, hC4⟩ : ∃ c : Array Value, c = #[.int .u64 Od, .int .u64 N, .slice pa pn pc, .bool ok] := ⟨_, rfl⟩
          have f1 := (Below.heap_alloc w3 (.cells C4 44) w.heap.size (by have := (Array.getElem?_eq_some_iff.1 b1).1; omega)).trans b1
          have f2 := World.alloc_heap_new w3 (.cells C4 44)
          have own5 := own3.alloc (.cells C4 44)
          have X5 := X3.alloc (.cells C4 44)
          have fr : (Value.slice pa pn pc).ownBlock ≠ some w3.heap.size := own3.fresh (Nat.le_refl _)
          have sz3 : w.heap.size < w3.heap.size := (Array.getElem?_eq_some_iff.1 b1).1
          obtain ⟨w5, hw5⟩ : ∃ x, w3.alloc (.cells C4 44) = x := ⟨_, rfl⟩
          have sz5 : w5.heap.size = w3.heap.size + 1 := by rw [← hw5]; simp
          rw [hw5] at f1 f2 own5 X5
          rw [hC4] at f2 hw5
          have HW5 := Lib.hid hw5
          clear hw5 hC4 own3 X3
          have g0 := row_at f2 0 (.int .u64 Od) rfl
          have g1 := row_at f2 1 (.int .u64 N) rfl
          have g2 := row_at f2 2 (.slice pa pn pc) rfl
          have g3 := row_at f2 3 (.bool ok) rfl
          cases ok with
          | false =>
            have X6 := X5.setRow (show w.heap.size ≤ w.heap.size by omega) #[.int .u64 0, .int .u64 0, .slice none 0 0, .bool false]
            have h1' := setRow_at f1 #[.int .u64 0, .int .u64 0, .slice none 0 0, .bool false]
            have k0 := row_at h1' 0 (.int .u64 0) rfl
            have k1 := row_at h1' 1 (.int .u64 0) rfl
            have k2 := row_at h1' 2 (.slice none 0 0) rfl
            have k3 := row_at h1' 3 (.bool false) rfl
            go_wp2_with (first
              | (rw [HW5.out])
              | (refine wpList_store_row rfl _ _ _ rfl w.heap.size _ rfl rfl _ _ f1 size_growth rfl (by simp [Value.oneCell']) ?_)
              | fail)
            refine bodyPost_ret (v := .agg #[.int .u64 0, .int .u64 0, .slice none 0 0, .bool false]) ?_ rfl ⟨.slice none 0 0, ?_, ?_, ?_⟩
            · simp [results, Try.results20, go_sem, k0, k1, k2, k3]
            · rw [HR.out]; rfl
            · rw [HR.out]; exact OwnR.nil
            · exact X6
          | true =>
            go_wp2_with (first | (rw [HW5.out]) | fail)
            obtain ⟨g, hg⟩ : ∃ g, (Value.slice pa pn pc).ownBlock = g := ⟨_, rfl⟩
            have n0 : some (w.heap.size) ≠ g := fun h => own5.apart_below (show w.heap.size < w.heap.size + 1 by omega) (hg.trans h.symm)
            have n1 : some (w3.heap.size) ≠ g := fun h => fr (hg.trans h.symm)
            have q0 := kb_cells g0 n1
            have q1 := kb_cells g1 n1
            have q2 := kb_cells g2 n1
            have sz6 := X5.size
            have hlL : prs.length ≤ f := by have := showsF_len f old (i - k) (n - k) false (ini ps); rw [HL.out] at this; exact this
            clear g0 g1 g2 g3 f2 RS fr
            apply wp_region_ordX [(0,.det _),(1,.det _),(2,.det _),(3,.det _),(4,.det _),(5,.det _),(6,.det _),(7,.det _),(8,.det _),(9,.det _),(10,.det _),(11,.det _),(12,.det _),(13,.det _),
              (14,.one (fun _ => True) (fun v w' => OwnR w' (w.heap.size + 1) 67 2 encP (.slice pa pn pc) prs ∧ Sl1 w.heap.size 67 #[.int .u64 z, .int .u64 N] v w') undef trivial),
              (15,.one (fun _ => True) (fun v w' => OwnR w' (w.heap.size + 1) 67 2 encP v (prs ++ [(z, N)])) undef trivial)] 16 Ext (Kb g) (Kb g w5) (Ext w5) wide
              [(0,true),(1,true),(2,true),(3,true),(4,true),(5,true),(6,true),(7,true),(8,true),(9,true),(10,true),(11,true),(12,true),(13,true),(14,false),(15,false)] (by kernel_rfl) rfl (by decide) (sub_kb g) (stable_kb g w5) (stable_ext _) (Kb.drawn _ _ _) (Ext.drawn _ _) ?main
            case main =>
              iterate 3 (apply ordX_det rfl rfl; (intro w' hw'; unfold opR; go_simp; exact ⟨Ext.refl _, rfl⟩); (simp only [List.getElem_toArray, List.getElem_cons_succ, List.getElem_cons_zero, Act.put, List.setIfInBounds_toArray, List.set_cons_succ, List.set_cons_zero]; rfl))
              (apply ordX_det rfl rfl; (intro w' hw'; refine opR_call rfl (Go.Proofs.enters_of Try.func28 (by kernel_rfl) rfl) (by simp only [List.map_toArray, List.map_cons, List.map_nil, Act.eval, Array.getD_eq_getD_getElem?, List.getElem?_toArray, List.getElem?_cons_succ, List.getElem?_cons_zero, Option.getD_some]; rfl) ?_; refine (rnode_walk _ _ w').mono ?_; rintro e w4 ⟨rfl, hx⟩; exact ⟨_, rfl, hx, rfl⟩); (simp only [List.getElem_toArray, List.getElem_cons_succ, List.getElem_cons_zero, Act.put, List.setIfInBounds_toArray, List.set_cons_succ, List.set_cons_zero]; rfl))
              iterate 3 (apply ordX_det rfl rfl; (intro w' hw'; unfold opR; go_simp; exact ⟨Ext.refl _, rfl⟩); (simp only [List.getElem_toArray, List.getElem_cons_succ, List.getElem_cons_zero, Act.put, List.setIfInBounds_toArray, List.set_cons_succ, List.set_cons_zero]; rfl))
              (apply ordX_det rfl rfl; (intro w' hw'; refine opR_call rfl (Go.Proofs.enters_of Try.func28 (by kernel_rfl) rfl) (by simp only [List.map_toArray, List.map_cons, List.map_nil, Act.eval, Array.getD_eq_getD_getElem?, List.getElem?_toArray, List.getElem?_cons_succ, List.getElem?_cons_zero, Option.getD_some]; rfl) ?_; refine (rnode_walk _ _ w').mono ?_; rintro e w4 ⟨rfl, hx⟩; exact ⟨_, rfl, hx, rfl⟩); (simp only [List.getElem_toArray, List.getElem_cons_succ, List.getElem_cons_zero, Act.put, List.setIfInBounds_toArray, List.set_cons_succ, List.set_cons_zero]; rfl))
              iterate 6 (apply ordX_det rfl rfl; (intro w' hw'; unfold opR; go_simp; exact ⟨Ext.refl _, rfl⟩); (simp only [List.getElem_toArray, List.getElem_cons_succ, List.getElem_cons_zero, Act.put, List.setIfInBounds_toArray, List.set_cons_succ, List.set_cons_zero]; rfl))
              apply ordX_one (fun v => stable_and (stable_own _ _ _ _ _ _) (stable_sl1 _ _ _ _)) rfl rfl
              · intro w' hw' hc'; unfold opR; go_simp
                exact ⟨(Ext.alloc' _ _).kb g, (own5.ext hc').alloc _, Sl1.new w' _ _ (Nat.le_trans sz6 hc'.size)⟩
              · intro v; (simp only [List.getElem_toArray, List.getElem_cons_succ, List.getElem_cons_zero, Act.put, List.setIfInBounds_toArray, List.set_cons_succ, List.set_cons_zero]; rfl)
              intro sv _
              apply ordX_one (fun v => stable_own _ _ _ _ _ v) rfl rfl
              · rintro w' hw' ⟨ho, b, rfl, hbb, hrow⟩
                refine opR_own_app et_pair _ _ rfl ho rfl [(z, N)] ⟨b, 0, none⟩ 1 rfl (by simp [encP]) (fun j u hu => row_cells hrow j u hu) (by simp [encP, Value.oneCell']) (by simp; omega) (Nat.le_trans (by omega) hw'.size) ?_
                intro v' w4 hown' hb' happ'
                exact ⟨hg ▸ happ'.kb, trivial, hown'⟩
              · intro v; (simp only [List.getElem_toArray, List.getElem_cons_succ, List.getElem_cons_zero, Act.put, List.setIfInBounds_toArray, List.set_cons_succ, List.set_cons_zero]; rfl)
              intro av _
              refine ordX_nil (l := [_, _]) rfl ?_
              rintro w6 hw6 ho6 -
              have r1 := (hw6.kept w.heap.size (by omega) n0).trans f1
              have X6 : Ext w w6 := Below.trans X5 (hw6.below sz6 (fun b hb => by subst hb; have := (World.ownsRow.lt own5 b hg).1; omega))
              obtain ⟨NN, hNN⟩ : ∃ y, node z N = y := ⟨_, rfl⟩
              have HNN := Lib.hid hNN
              rw [hNN]
              obtain ⟨OO, hOO⟩ : ∃ y, node z Od = y := ⟨_, rfl⟩
              have HOO := Lib.hid hOO
              rw [hOO]
              clear hNN hOO
              have r2 := setRow_at r1 #[.int .u64 OO, .int .u64 NN, av, .bool true]
              have X7 := X6.setRow (show w.heap.size ≤ w.heap.size by omega) #[.int .u64 OO, .int .u64 NN, av, .bool true]
              have own7 := ho6.setRow (ho6.apart_below (show w.heap.size < w.heap.size + 1 by omega)) #[.int .u64 OO, .int .u64 NN, av, .bool true]
              have k0 := row_at r2 0 (.int .u64 OO) rfl
              have k1 := row_at r2 1 (.int .u64 NN) rfl
              have k2 := row_at r2 2 av rfl
              have k3 := row_at r2 3 (.bool true) rfl
              obtain ⟨va, vn, vc, rfl⟩ := ho6.shape
              go_wp2_with (first
                | (refine wpList_store_row rfl _ _ _ rfl w.heap.size _ rfl rfl _ _ r1 size_growth rfl (by simp [Value.oneCell']) ?_)
                | fail)
              refine bodyPost_ret (v := .agg #[.int .u64 OO, .int .u64 NN, .slice va vn vc, .bool true]) ?_ rfl ⟨.slice va vn vc, ?_, ?_, ?_⟩
              · simp [results, Try.results20, go_sem, k0, k1, k2, k3]
              · rw [HR.out, ← HNN.out, ← HOO.out]; rfl
              · rw [HR.out]; exact own7.mono (by omega)
              · exact X7
end Go.Proofs.Yteelklpppfahcaa
