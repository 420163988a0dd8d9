/-
  Walks: the reference's Leads, Check.
-/
import Derived.Test.YteelklpppfahcaaRepT
import Derived.Test.YteelklpppfahcaaRepU
import Derived.Test.YteelklpppfahcaaKb
set_option linter.unusedVariables false
namespace Go.Proofs.Yteelklpppfahcaa
open Go.RowKit Go.Sx Go.Sx.Rep

def encP (p : Int × Int) : List Value := [.int .u64 p.1, .int .u64 p.2]
theorem et_pair : ET Try.prog 35 67 2 16 := .mk' (z := .agg #[.int .u64 0, .int .u64 0]) Try.underlying35 (by kernel_rfl) rfl (by decide) (by decide)

theorem size_way : (Try.prog.info? 37).map (·.size) = some 3 := by kernel_rfl
theorem size_pair : (Try.prog.info? 67).map (·.size) = some 2 := by kernel_rfl

theorem leadsF_len : ∀ (f : Nat) (leaf : Int) (i n : Nat) (ps : List Int), (leadsF f leaf i n ps).2.1.length ≤ f
  | 0, _, _, _, _ => Nat.le_refl _
  | f + 1, leaf, i, n, ps => by
    unfold leadsF
    have h1 := leadsF_len f leaf i (split n) (ini ps)
    have h2 := leadsF_len f leaf (i - split n) (n - split n) (ini ps)
    split
    · simp
    · split
      · simp
      · split
        · split <;> simp <;> omega
        · split <;> simp <;> omega
theorem ini_sl {w : World} {b o n cap : Nat} {ps : List Int} (S : Sl w 1 encU (.slice (some ⟨b, o, none⟩) n cap) ps) : Sl w 1 encU (.slice (some ⟨b, o, none⟩) (ps.length - 1) cap) (ini ps) := Sl_first S _ (by omega)

set_option maxHeartbeats 4000000 in
theorem leads_walk : ∀ (f : Nat) (leaf : Int) (i n : Nat) (v : Value) (ps : List Int) (w : World), n ≤ f → f ≤ 100000 → i < n → Sl w 1 encU v ps →
    Calls Try.prog 15 #[.int .u64 leaf, .int .i64 i, .int .i64 n, v] w fun e w' => ∃ p, e = .returned (.agg #[.int .u64 (leadsF f leaf i n ps).1, p, .bool (leadsF f leaf i n ps).2.2]) ∧
      OwnR w' w.heap.size 67 2 encP p (leadsF f leaf i n ps).2.1 ∧ Ext w w' := by
  intro f
  induction f with
  | zero => intro leaf i n v ps w h1 _ h2; omega
  | succ f ih =>
    intro leaf i n v ps w hn hff hi S
    obtain ⟨a?, cap, rfl, h1, h2, h3⟩ := S.len
    by_cases hn1 : n = 1
    · subst hn1
      have hr : leadsF (f + 1) leaf i 1 ps = (leaf, [], decide (ps.length = 0)) := by unfold leadsF; rw [if_pos rfl]
      have HR := Lib.hid hr
      clear hr h1 h2
      go_enter Try.func15, Try.ntmps15
      go_wp2
      refine bodyPost_ret (v := .agg #[.int .u64 leaf, .slice none 0 0, .bool ((ps.length : Int) == 0)]) ?_ rfl ⟨.slice none 0 0, ?_, ?_, ?_⟩
      · simp [results, Try.results15, go_sem]
      · rw [HR.out]
        simp only [Ending.returned.injEq, Value.agg.injEq]
        rw [show ((ps.length : Int) == 0) = decide (ps.length = 0) by rw [Bool.eq_iff_iff]; simp]
      · rw [HR.out]; exact OwnR.nil
      · exact (by repeat (first | exact Ext.refl _ | assumption | apply Ext.alloc | apply Ext.drew | (refine Ext.setCell ?_ (by simp) _)))
    · have he : ((n : Int) == 1) = false := by rw [beq_eq_false_iff_ne]; omega
      by_cases hp0 : ps.length = 0
      · have hr : leadsF (f + 1) leaf i n ps = (0, [], false) := by unfold leadsF; rw [if_neg hn1, if_pos hp0]
        have hp0' : ((ps.length : Int) == 0) = true := by rw [beq_iff_eq]; omega
        have HR := Lib.hid hr
        clear hr h1 h2 hp0
        go_enter Try.func15, Try.ntmps15
        go_wp2
        refine bodyPost_ret (v := .agg #[.int .u64 0, .slice none 0 0, .bool false]) ?_ rfl ⟨.slice none 0 0, ?_, ?_, ?_⟩
        · simp [results, Try.results15, go_sem]
        · rw [HR.out]
        · rw [HR.out]; exact OwnR.nil
        · exact (by repeat (first | exact Ext.refl _ | assumption | apply Ext.alloc | apply Ext.drew | (refine Ext.setCell ?_ (by simp) _)))
      · have hp0' : ((ps.length : Int) == 0) = false := by rw [beq_eq_false_iff_ne]; omega
        have hk1 := split_pos n
        have hk2 := split_lt (n := n) (by omega)
        have RS := Lib.hid (fun w => rsplit_walk n w (by omega) (by omega))
        obtain ⟨b0, o0, rfl, hz⟩ := S.at1 (ps.length - 1) (by omega)
        have hz0 : w.cell? ⟨b0, o0 + (ps.length - 1), none⟩ = some (.int .u64 (lst ps)) := by
          rw [hz]
          simp only [encU, List.getD_cons_zero]
          unfold lst
          rw [List.getD_eq_getElem?_getD, List.getElem?_eq_getElem (by omega), Option.getD_some]
        have gz := hz0
        have gz1 := (Ext.alloc' w (.cells #[.int .u64 0, .slice none 0 0, .bool false] 37)).cell hz0
        have SI := ini_sl S
        have hge : (1 : Int) ≤ ps.length := by omega
        have hge2 : 1 ≤ ps.length := by omega
        unfold maxLen at h2
        have hr : leadsF (f + 1) leaf i n ps = if i < split n then
      (if (leadsF f leaf i (split n) (ini ps)).2.2 then (node (leadsF f leaf i (split n) (ini ps)).1 (lst ps), (leadsF f leaf i (split n) (ini ps)).2.1 ++ [((leadsF f leaf i (split n) (ini ps)).1, lst ps)], true) else (0, [], false))
    else
      (if (leadsF f leaf (i - split n) (n - split n) (ini ps)).2.2 then (node (lst ps) (leadsF f leaf (i - split n) (n - split n) (ini ps)).1, (leadsF f leaf (i - split n) (n - split n) (ini ps)).2.1 ++ [(lst ps, (leadsF f leaf (i - split n) (n - split n) (ini ps)).1)], true) else (0, [], false)) := by
          show (if n = 1 then _ else _) = _
          rw [if_neg hn1, if_neg hp0]
        obtain ⟨k, hk⟩ : ∃ k, split n = k := ⟨_, rfl⟩
        obtain ⟨z, hzz⟩ : ∃ z, lst ps = z := ⟨_, rfl⟩
        rw [hk] at hk1 hk2 hr
        simp only [hk] at RS
        rw [hzz] at hz0 hr gz gz1
        have HK := Lib.hid hk
        have HZ := Lib.hid hzz
        have IH := Lib.hid ih
        clear hz hk hzz ih hn1 S hz0
        by_cases hik : i < k
        · rw [if_pos hik] at hr
          obtain ⟨⟨top, prs, ok⟩, hL⟩ : ∃ r, leadsF f leaf i k (ini ps) = r := ⟨_, rfl⟩
          rw [hL] at hr
          simp only [] at hr
          have HL := Lib.hid hL
          have HR := Lib.hid hr
          have R := Lib.hid (fun w' hw => (IH.out leaf i k _ (ini ps) w' (by omega) (by omega) hik (SI.ext hw)))
          clear hL hr SI IH
          go_enter Try.func15, Try.ntmps15
          go_wp2_with (go_at_call 21; go_must (refine (RS.out _).mono ?_); rintro e w1 ⟨rfl, rfl⟩)
          refine (R.out _ (((Ext.alloc' w _).alloc _).alloc _)).mono ?_
          rw [HL.out]
          rintro e w3 ⟨p, rfl, own3, x3⟩
          simp only [World.size_alloc] at own3
          obtain ⟨pa, pn, pc, rfl⟩ := own3.shape
          have b1 : w3.heap[w.heap.size]? = some (.cells #[.int .u64 0, .slice none 0 0, .bool false] 37) := (x3.block w.heap.size (by simp; omega)).trans (by rw [Below.heap_alloc _ _ _ (by simp; omega), Below.heap_alloc _ _ _ (by simp)]; exact World.alloc_heap_new w _)
          have b2 : w3.heap[w.heap.size + 1]? = some (.cells #[.int .u64 0, .slice none 0 0, .bool false] 37) := (x3.block (w.heap.size + 1) (by simp)).trans (by rw [Below.heap_alloc _ _ _ (by simp)]; simpa using World.alloc_heap_new (w.alloc (.cells #[.int .u64 0, .slice none 0 0, .bool false] 37)) _)
          have b3 : w3.heap[w.heap.size + 2]? = some (.cells #[.int .u64 0, .int .u64 0] 67) := (x3.block (w.heap.size + 2) (by simp)).trans (by simpa using World.alloc_heap_new ((w.alloc (.cells #[.int .u64 0, .slice none 0 0, .bool false] 37)).alloc (.cells #[.int .u64 0, .slice none 0 0, .bool false] 37)) (.cells #[.int .u64 0, .int .u64 0] 67))
          have X3 : Ext w w3 := Ext.trans (((Ext.alloc' w _).alloc _).alloc _) x3
          clear x3
          obtain ⟨C4, hC4⟩ : ∃ c : Array Value, c = #[.int .u64 top, .slice pa pn pc, .bool ok] := ⟨_, rfl⟩
          obtain ⟨C5, hC5⟩ : ∃ c : Array Value, c = #[.int .u64 top, .int .u64 z] := ⟨_, rfl⟩
          have d1 := setRow_ne b1 (show w.heap.size ≠ w.heap.size + 1 by omega) C4
          have d2 := setRow_at b2 C4
          have d3 := setRow_ne b3 (show w.heap.size + 2 ≠ w.heap.size + 1 by omega) C4
          have own4 := own3.setRow (own3.apart_below (show w.heap.size + 1 < w.heap.size + 1 + 1 + 1 by omega)) C4
          have X4 := X3.setRow (show w.heap.size ≤ w.heap.size + 1 by omega) C4
          obtain ⟨w4, hw4⟩ : ∃ x, w3.setRow (w.heap.size + 1) C4 = x := ⟨_, rfl⟩
          rw [hw4] at d1 d2 d3 own4 X4
          have f1 := setRow_ne d1 (show w.heap.size ≠ w.heap.size + 2 by omega) C5
          have f2 := setRow_ne d2 (show w.heap.size + 1 ≠ w.heap.size + 2 by omega) C5
          have f3 := setRow_at d3 C5
          have own5 := own4.setRow (own4.apart_below (show w.heap.size + 2 < w.heap.size + 1 + 1 + 1 by omega)) C5
          have X5 := X4.setRow (show w.heap.size ≤ w.heap.size + 2 by omega) C5
          obtain ⟨w5, hw5⟩ : ∃ x, w4.setRow (w.heap.size + 2) C5 = x := ⟨_, rfl⟩
          rw [hw5] at f1 f2 f3 own5 X5
          rw [hC4] at d2 f2 hw4
          rw [hC5] at f3 hw5
          have HW4 := Lib.hid hw4
          have HW5 := Lib.hid hw5
          clear hw4 hw5 hC4 hC5 own3 own4 X3 X4 d1
          have e0 := row_at d2 0 (.int .u64 top) rfl
          have g0 := row_at f2 0 (.int .u64 top) rfl
          have g1 := row_at f2 1 (.slice pa pn pc) rfl
          have g2 := row_at f2 2 (.bool ok) rfl
          have g3 := row_at f3 0 (.int .u64 top) rfl
          have g4 := row_at f3 1 (.int .u64 z) rfl
          cases ok with
          | false =>
            have X6 := X5.setRow (show w.heap.size ≤ w.heap.size by omega) #[.int .u64 0, .slice none 0 0, .bool false]
            have h1' := setRow_at f1 #[.int .u64 0, .slice none 0 0, .bool false]
            have k0 := row_at h1' 0 (.int .u64 0) rfl
            have k1 := row_at h1' 1 (.slice none 0 0) rfl
            have k2 := row_at h1' 2 (.bool false) rfl
            go_wp2_with (first
              | (refine wpList_store_row rfl _ _ _ rfl (w.heap.size + 1) _ rfl rfl _ _ b2 size_way rfl (by simp [Value.oneCell']) ?_; rw [HW4.out])
              | (refine wpList_store_row rfl _ _ _ rfl (w.heap.size + 2) _ rfl rfl _ _ d3 size_pair rfl (by simp [Value.oneCell']) ?_; rw [HW5.out])
              | (refine wpList_store_row rfl _ _ _ rfl w.heap.size _ rfl rfl _ _ f1 size_way rfl (by simp [Value.oneCell']) ?_)
              | fail)
            refine bodyPost_ret (v := .agg #[.int .u64 0, .slice none 0 0, .bool false]) ?_ rfl ⟨.slice none 0 0, ?_, ?_, ?_⟩
            · simp [results, Try.results15, go_sem, k0, k1, k2]
            · rw [HR.out]; rfl
            · rw [HR.out]; exact OwnR.nil
            · exact X6
          | true =>
            go_wp2_with (first
              | (refine wpList_store_row rfl _ _ _ rfl (w.heap.size + 1) _ rfl rfl _ _ b2 size_way rfl (by simp [Value.oneCell']) ?_; rw [HW4.out])
              | (refine wpList_store_row rfl _ _ _ rfl (w.heap.size + 2) _ rfl rfl _ _ d3 size_pair rfl (by simp [Value.oneCell']) ?_; rw [HW5.out])
              | fail)
            obtain ⟨g, hg⟩ : ∃ g, (Value.slice pa pn pc).ownBlock = g := ⟨_, rfl⟩
            have n0 : some (w.heap.size) ≠ g := fun h => own5.apart_below (show w.heap.size < w.heap.size + 1 + 1 + 1 by omega) (hg.trans h.symm)
            have n1 : some (w.heap.size + 1) ≠ g := fun h => own5.apart_below (show w.heap.size + 1 < w.heap.size + 1 + 1 + 1 by omega) (hg.trans h.symm)
            have n2 : some (w.heap.size + 2) ≠ g := fun h => own5.apart_below (show w.heap.size + 2 < w.heap.size + 1 + 1 + 1 by omega) (hg.trans h.symm)
            have q1 := kb_cells g1 n1
            have q3 := kb_cells g3 n2
            have q4 := kb_cells g4 n2
            have sz5 := X5.size
            have sz6 : w.heap.size + 2 < w5.heap.size := (Array.getElem?_eq_some_iff.1 f3).1
            have hlL : prs.length ≤ f := by have := leadsF_len f leaf i k (ini ps); rw [HL.out] at this; exact this
            clear g0 g1 g2 g3 g4 e0 b2 f2 f3 d2 d3 HW4 HW5 RS
            apply wp_region_ordX [(0,.det _),(1,.det _),(2,.det _),(3,.det _),(4,.det _),(5,.det _),(6,.det _),(7,.det _),
              (8,.one (fun _ => True) (fun v w' => OwnR w' (w.heap.size + 1 + 1 + 1) 67 2 encP (.slice pa pn pc) prs ∧ Sl1 w.heap.size 67 #[.int .u64 top, .int .u64 z] v w') undef trivial),
              (9,.one (fun _ => True) (fun v w' => OwnR w' (w.heap.size + 1 + 1 + 1) 67 2 encP v (prs ++ [(top, z)])) undef trivial)] 10 Ext (Kb g) (Kb g w5) (Ext w5) wide
              [(0,true),(1,true),(2,true),(3,true),(4,true),(5,true),(6,true),(7,true),(8,false),(9,false)] (by kernel_rfl) rfl (by decide) (sub_kb g) (stable_kb g w5) (stable_ext _) (Kb.drawn _ _ _) (Ext.drawn _ _) ?main
            case main =>
              iterate 4 (apply ordX_det rfl rfl; (intro w' hw'; unfold opR; go_simp; exact ⟨Ext.refl _, rfl⟩); (simp only [List.getElem_toArray, List.getElem_cons_succ, List.getElem_cons_zero, Act.put, List.setIfInBounds_toArray, List.set_cons_succ, List.set_cons_zero]; rfl))
              (apply ordX_det rfl rfl; (intro w' hw'; refine opR_call rfl (Go.Proofs.enters_of Try.func28 (by kernel_rfl) rfl) (by simp only [List.map_toArray, List.map_cons, List.map_nil, Act.eval, Array.getD_eq_getD_getElem?, List.getElem?_toArray, List.getElem?_cons_succ, List.getElem?_cons_zero, Option.getD_some]; rfl) ?_; refine (rnode_walk _ _ w').mono ?_; rintro e w4 ⟨rfl, hx⟩; exact ⟨_, rfl, hx, rfl⟩); (simp only [List.getElem_toArray, List.getElem_cons_succ, List.getElem_cons_zero, Act.put, List.setIfInBounds_toArray, List.set_cons_succ, List.set_cons_zero]; rfl))
              iterate 3 (apply ordX_det rfl rfl; (intro w' hw'; unfold opR; go_simp; exact ⟨Ext.refl _, rfl⟩); (simp only [List.getElem_toArray, List.getElem_cons_succ, List.getElem_cons_zero, Act.put, List.setIfInBounds_toArray, List.set_cons_succ, List.set_cons_zero]; rfl))
              apply ordX_one (fun v => stable_and (stable_own _ _ _ _ _ _) (stable_sl1 _ _ _ _)) rfl rfl
              · intro w' hw' hc'; unfold opR; go_simp
                exact ⟨(Ext.alloc' _ _).kb g, (own5.ext hc').alloc _, Sl1.new w' _ _ (Nat.le_trans sz5 hc'.size)⟩
              · intro v; (simp only [List.getElem_toArray, List.getElem_cons_succ, List.getElem_cons_zero, Act.put, List.setIfInBounds_toArray, List.set_cons_succ, List.set_cons_zero]; rfl)
              intro sv _
              apply ordX_one (fun v => stable_own _ _ _ _ _ v) rfl rfl
              · rintro w' hw' ⟨ho, b, rfl, hbb, hrow⟩
                refine opR_own_app et_pair _ _ rfl ho rfl [(top, z)] ⟨b, 0, none⟩ 1 rfl (by simp [encP]) (fun j u hu => row_cells hrow j u hu) (by simp [encP, Value.oneCell']) (by simp; omega) (Nat.le_trans (by omega) hw'.size) ?_
                intro v' w4 hown' hb' happ'
                exact ⟨hg ▸ happ'.kb, trivial, hown'⟩
              · intro v; (simp only [List.getElem_toArray, List.getElem_cons_succ, List.getElem_cons_zero, Act.put, List.setIfInBounds_toArray, List.set_cons_succ, List.set_cons_zero]; rfl)
              intro av _
              refine ordX_nil (l := [_, _]) rfl ?_
              rintro w6 hw6 ho6 -
              have r1 := (hw6.kept w.heap.size (by omega) n0).trans f1
              have X6 : Ext w w6 := Below.trans X5 (hw6.below sz5 (fun b hb => by subst hb; have := (World.ownsRow.lt own5 b hg).1; omega))
              obtain ⟨N, hN⟩ : ∃ N, node top z = N := ⟨_, rfl⟩
              have HN := Lib.hid hN
              rw [hN]
              have r2 := setRow_at r1 #[.int .u64 N, av, .bool true]
              have X7 := X6.setRow (show w.heap.size ≤ w.heap.size by omega) #[.int .u64 N, av, .bool true]
              have own7 := ho6.setRow (ho6.apart_below (show w.heap.size < w.heap.size + 1 + 1 + 1 by omega)) #[.int .u64 N, av, .bool true]
              have k0 := row_at r2 0 (.int .u64 N) rfl
              have k1 := row_at r2 1 av rfl
              have k2 := row_at r2 2 (.bool true) rfl
              obtain ⟨va, vn, vc, rfl⟩ := ho6.shape
              clear hN
              go_wp2_with (first
                | (refine wpList_store_row rfl _ _ _ rfl w.heap.size _ rfl rfl _ _ r1 size_way rfl (by simp [Value.oneCell']) ?_)
                | fail)
              refine bodyPost_ret (v := .agg #[.int .u64 N, .slice va vn vc, .bool true]) ?_ rfl ⟨.slice va vn vc, ?_, ?_, ?_⟩
              · simp [results, Try.results15, go_sem, k0, k1, k2]
              · rw [HR.out, ← HN.out]; rfl
              · rw [HR.out]; exact own7.mono (by omega)
              · exact X7
        · rw [if_neg hik] at hr
          obtain ⟨⟨top, prs, ok⟩, hL⟩ : ∃ r, leadsF f leaf (i - k) (n - k) (ini ps) = r := ⟨_, rfl⟩
          rw [hL] at hr
          simp only [] at hr
          have HL := Lib.hid hL
          have HR := Lib.hid hr
          have R := Lib.hid (fun w' (hw : Ext w w') => show Calls Try.prog 15 #[.int .u64 leaf, .int .i64 ((i : Int) - k), .int .i64 ((n : Int) - k), .slice (some ⟨b0, o0, none⟩) (ps.length - 1) cap] w' _ by
            have h := IH.out leaf (i - k) (n - k) _ (ini ps) w' (by omega) (by omega) (by omega) (SI.ext hw)
            rw [show (((i - k : Nat)) : Int) = (i : Int) - k by omega, show (((n - k : Nat)) : Int) = (n : Int) - k by omega] at h
            exact h)
          clear hL hr SI IH
          go_enter Try.func15, Try.ntmps15
          go_wp2_with (go_at_call 21; go_must (refine (RS.out _).mono ?_); rintro e w1 ⟨rfl, rfl⟩)
          refine (R.out _ (((Ext.alloc' w _).alloc _).alloc _)).mono ?_
          rw [HL.out]
          rintro e w3 ⟨p, rfl, own3, x3⟩
          simp only [World.size_alloc] at own3
          obtain ⟨pa, pn, pc, rfl⟩ := own3.shape
          have b1 : w3.heap[w.heap.size]? = some (.cells #[.int .u64 0, .slice none 0 0, .bool false] 37) := (x3.block w.heap.size (by simp; omega)).trans (by rw [Below.heap_alloc _ _ _ (by simp; omega), Below.heap_alloc _ _ _ (by simp)]; exact World.alloc_heap_new w _)
          have b2 : w3.heap[w.heap.size + 1]? = some (.cells #[.int .u64 0, .slice none 0 0, .bool false] 37) := (x3.block (w.heap.size + 1) (by simp)).trans (by rw [Below.heap_alloc _ _ _ (by simp)]; simpa using World.alloc_heap_new (w.alloc (.cells #[.int .u64 0, .slice none 0 0, .bool false] 37)) _)
          have b3 : w3.heap[w.heap.size + 2]? = some (.cells #[.int .u64 0, .int .u64 0] 67) := (x3.block (w.heap.size + 2) (by simp)).trans (by simpa using World.alloc_heap_new ((w.alloc (.cells #[.int .u64 0, .slice none 0 0, .bool false] 37)).alloc (.cells #[.int .u64 0, .slice none 0 0, .bool false] 37)) (.cells #[.int .u64 0, .int .u64 0] 67))
          have X3 : Ext w w3 := Ext.trans (((Ext.alloc' w _).alloc _).alloc _) x3
          clear x3
          obtain ⟨C4, hC4⟩ : ∃ c : Array Value, c = #[.int .u64 top, .slice pa pn pc, .bool ok] := ⟨_, rfl⟩
          obtain ⟨C5, hC5⟩ : ∃ c : Array Value, c = #[.int .u64 z, .int .u64 top] := ⟨_, rfl⟩
          have d1 := setRow_ne b1 (show w.heap.size ≠ w.heap.size + 1 by omega) C4
          have d2 := setRow_at b2 C4
          have d3 := setRow_ne b3 (show w.heap.size + 2 ≠ w.heap.size + 1 by omega) C4
          have own4 := own3.setRow (own3.apart_below (show w.heap.size + 1 < w.heap.size + 1 + 1 + 1 by omega)) C4
          have X4 := X3.setRow (show w.heap.size ≤ w.heap.size + 1 by omega) C4
          obtain ⟨w4, hw4⟩ : ∃ x, w3.setRow (w.heap.size + 1) C4 = x := ⟨_, rfl⟩
          rw [hw4] at d1 d2 d3 own4 X4
          have f1 := setRow_ne d1 (show w.heap.size ≠ w.heap.size + 2 by omega) C5
          have f2 := setRow_ne d2 (show w.heap.size + 1 ≠ w.heap.size + 2 by omega) C5
          have f3 := setRow_at d3 C5
          have own5 := own4.setRow (own4.apart_below (show w.heap.size + 2 < w.heap.size + 1 + 1 + 1 by omega)) C5
          have X5 := X4.setRow (show w.heap.size ≤ w.heap.size + 2 by omega) C5
          obtain ⟨w5, hw5⟩ : ∃ x, w4.setRow (w.heap.size + 2) C5 = x := ⟨_, rfl⟩
          rw [hw5] at f1 f2 f3 own5 X5
          rw [hC4] at d2 f2 hw4
          rw [hC5] at f3 hw5
          have HW4 := Lib.hid hw4
          have HW5 := Lib.hid hw5
          clear hw4 hw5 hC4 hC5 own3 own4 X3 X4 d1
          have e0 := row_at d2 0 (.int .u64 top) rfl
          have g0 := row_at f2 0 (.int .u64 top) rfl
          have g1 := row_at f2 1 (.slice pa pn pc) rfl
          have g2 := row_at f2 2 (.bool ok) rfl
          have g3 := row_at f3 0 (.int .u64 z) rfl
          have g4 := row_at f3 1 (.int .u64 top) rfl
          cases ok with
          | false =>
            have X6 := X5.setRow (show w.heap.size ≤ w.heap.size by omega) #[.int .u64 0, .slice none 0 0, .bool false]
            have h1' := setRow_at f1 #[.int .u64 0, .slice none 0 0, .bool false]
            have k0 := row_at h1' 0 (.int .u64 0) rfl
            have k1 := row_at h1' 1 (.slice none 0 0) rfl
            have k2 := row_at h1' 2 (.bool false) rfl
            go_wp2_with (first
              | (refine wpList_store_row rfl _ _ _ rfl (w.heap.size + 1) _ rfl rfl _ _ b2 size_way rfl (by simp [Value.oneCell']) ?_; rw [HW4.out])
              | (refine wpList_store_row rfl _ _ _ rfl (w.heap.size + 2) _ rfl rfl _ _ d3 size_pair rfl (by simp [Value.oneCell']) ?_; rw [HW5.out])
              | (refine wpList_store_row rfl _ _ _ rfl w.heap.size _ rfl rfl _ _ f1 size_way rfl (by simp [Value.oneCell']) ?_)
              | fail)
            refine bodyPost_ret (v := .agg #[.int .u64 0, .slice none 0 0, .bool false]) ?_ rfl ⟨.slice none 0 0, ?_, ?_, ?_⟩
            · simp [results, Try.results15, go_sem, k0, k1, k2]
            · rw [HR.out]; rfl
            · rw [HR.out]; exact OwnR.nil
            · exact X6
          | true =>
            go_wp2_with (first
              | (refine wpList_store_row rfl _ _ _ rfl (w.heap.size + 1) _ rfl rfl _ _ b2 size_way rfl (by simp [Value.oneCell']) ?_; rw [HW4.out])
              | (refine wpList_store_row rfl _ _ _ rfl (w.heap.size + 2) _ rfl rfl _ _ d3 size_pair rfl (by simp [Value.oneCell']) ?_; rw [HW5.out])
              | fail)
            obtain ⟨g, hg⟩ : ∃ g, (Value.slice pa pn pc).ownBlock = g := ⟨_, rfl⟩
            have n0 : some (w.heap.size) ≠ g := fun h => own5.apart_below (show w.heap.size < w.heap.size + 1 + 1 + 1 by omega) (hg.trans h.symm)
            have n1 : some (w.heap.size + 1) ≠ g := fun h => own5.apart_below (show w.heap.size + 1 < w.heap.size + 1 + 1 + 1 by omega) (hg.trans h.symm)
            have n2 : some (w.heap.size + 2) ≠ g := fun h => own5.apart_below (show w.heap.size + 2 < w.heap.size + 1 + 1 + 1 by omega) (hg.trans h.symm)
            have q1 := kb_cells g1 n1
            have q3 := kb_cells g3 n2
            have q4 := kb_cells g4 n2
            have sz5 := X5.size
            have sz6 : w.heap.size + 2 < w5.heap.size := (Array.getElem?_eq_some_iff.1 f3).1
            have hlL : prs.length ≤ f := by have := leadsF_len f leaf (i - k) (n - k) (ini ps); rw [HL.out] at this; exact this
            clear g0 g1 g2 g3 g4 e0 b2 f2 f3 d2 d3 HW4 HW5 RS
            apply wp_region_ordX [(0,.det _),(1,.det _),(2,.det _),(3,.det _),(4,.det _),(5,.det _),(6,.det _),(7,.det _),
              (8,.one (fun _ => True) (fun v w' => OwnR w' (w.heap.size + 1 + 1 + 1) 67 2 encP (.slice pa pn pc) prs ∧ Sl1 w.heap.size 67 #[.int .u64 z, .int .u64 top] v w') undef trivial),
              (9,.one (fun _ => True) (fun v w' => OwnR w' (w.heap.size + 1 + 1 + 1) 67 2 encP v (prs ++ [(z, top)])) undef trivial)] 10 Ext (Kb g) (Kb g w5) (Ext w5) wide
              [(0,true),(1,true),(2,true),(3,true),(4,true),(5,true),(6,true),(7,true),(8,false),(9,false)] (by kernel_rfl) rfl (by decide) (sub_kb g) (stable_kb g w5) (stable_ext _) (Kb.drawn _ _ _) (Ext.drawn _ _) ?main
            case main =>
              iterate 4 (apply ordX_det rfl rfl; (intro w' hw'; unfold opR; go_simp; exact ⟨Ext.refl _, rfl⟩); (simp only [List.getElem_toArray, List.getElem_cons_succ, List.getElem_cons_zero, Act.put, List.setIfInBounds_toArray, List.set_cons_succ, List.set_cons_zero]; rfl))
              (apply ordX_det rfl rfl; (intro w' hw'; refine opR_call rfl (Go.Proofs.enters_of Try.func28 (by kernel_rfl) rfl) (by simp only [List.map_toArray, List.map_cons, List.map_nil, Act.eval, Array.getD_eq_getD_getElem?, List.getElem?_toArray, List.getElem?_cons_succ, List.getElem?_cons_zero, Option.getD_some]; rfl) ?_; refine (rnode_walk _ _ w').mono ?_; rintro e w4 ⟨rfl, hx⟩; exact ⟨_, rfl, hx, rfl⟩); (simp only [List.getElem_toArray, List.getElem_cons_succ, List.getElem_cons_zero, Act.put, List.setIfInBounds_toArray, List.set_cons_succ, List.set_cons_zero]; rfl))
              iterate 3 (apply ordX_det rfl rfl; (intro w' hw'; unfold opR; go_simp; exact ⟨Ext.refl _, rfl⟩); (simp only [List.getElem_toArray, List.getElem_cons_succ, List.getElem_cons_zero, Act.put, List.setIfInBounds_toArray, List.set_cons_succ, List.set_cons_zero]; rfl))
              apply ordX_one (fun v => stable_and (stable_own _ _ _ _ _ _) (stable_sl1 _ _ _ _)) rfl rfl
              · intro w' hw' hc'; unfold opR; go_simp
                exact ⟨(Ext.alloc' _ _).kb g, (own5.ext hc').alloc _, Sl1.new w' _ _ (Nat.le_trans sz5 hc'.size)⟩
              · intro v; (simp only [List.getElem_toArray, List.getElem_cons_succ, List.getElem_cons_zero, Act.put, List.setIfInBounds_toArray, List.set_cons_succ, List.set_cons_zero]; rfl)
              intro sv _
              apply ordX_one (fun v => stable_own _ _ _ _ _ v) rfl rfl
              · rintro w' hw' ⟨ho, b, rfl, hbb, hrow⟩
                refine opR_own_app et_pair _ _ rfl ho rfl [(z, top)] ⟨b, 0, none⟩ 1 rfl (by simp [encP]) (fun j u hu => row_cells hrow j u hu) (by simp [encP, Value.oneCell']) (by simp; omega) (Nat.le_trans (by omega) hw'.size) ?_
                intro v' w4 hown' hb' happ'
                exact ⟨hg ▸ happ'.kb, trivial, hown'⟩
              · intro v; (simp only [List.getElem_toArray, List.getElem_cons_succ, List.getElem_cons_zero, Act.put, List.setIfInBounds_toArray, List.set_cons_succ, List.set_cons_zero]; rfl)
              intro av _
              refine ordX_nil (l := [_, _]) rfl ?_
              rintro w6 hw6 ho6 -
              have r1 := (hw6.kept w.heap.size (by omega) n0).trans f1
              have X6 : Ext w w6 := Below.trans X5 (hw6.below sz5 (fun b hb => by subst hb; have := (World.ownsRow.lt own5 b hg).1; omega))
              obtain ⟨N, hN⟩ : ∃ N, node z top = N := ⟨_, rfl⟩
              have HN := Lib.hid hN
              rw [hN]
              have r2 := setRow_at r1 #[.int .u64 N, av, .bool true]
              have X7 := X6.setRow (show w.heap.size ≤ w.heap.size by omega) #[.int .u64 N, av, .bool true]
              have own7 := ho6.setRow (ho6.apart_below (show w.heap.size < w.heap.size + 1 + 1 + 1 by omega)) #[.int .u64 N, av, .bool true]
              have k0 := row_at r2 0 (.int .u64 N) rfl
              have k1 := row_at r2 1 av rfl
              have k2 := row_at r2 2 (.bool true) rfl
              obtain ⟨va, vn, vc, rfl⟩ := ho6.shape
              clear hN
              go_wp2_with (first
                | (refine wpList_store_row rfl _ _ _ rfl w.heap.size _ rfl rfl _ _ r1 size_way rfl (by simp [Value.oneCell']) ?_)
                | fail)
              refine bodyPost_ret (v := .agg #[.int .u64 N, .slice va vn vc, .bool true]) ?_ rfl ⟨.slice va vn vc, ?_, ?_, ?_⟩
              · simp [results, Try.results15, go_sem, k0, k1, k2]
              · rw [HR.out, ← HN.out]; rfl
              · rw [HR.out]; exact own7.mono (by omega)
              · exact X7
end Go.Proofs.Yteelklpppfahcaa
