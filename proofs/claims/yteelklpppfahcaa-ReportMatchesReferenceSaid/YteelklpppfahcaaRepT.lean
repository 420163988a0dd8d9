/-
  Walks: the reference's Root, Path, grown, Grow.
-/
import Derived.Test.YteelklpppfahcaaRepS
set_option linter.unusedVariables false
namespace Go.Proofs.Yteelklpppfahcaa
open Go.RowKit Go.Sx Go.Sx.Rep

set_option maxHeartbeats 400000 in
theorem rroot_walk (v : Value) (xs : List Int) (w : World) (S : Sl w 1 encU v xs) :
    Calls Try.prog 29 #[v] w fun e w' => e = .returned (.tuple #[.int .u64 (rootV xs), .int .i64 (rootErr xs)]) ∧ Ext w w' := by
  obtain ⟨a?, cap, rfl, h1, h2, h3⟩ := S.len
  clear h1 h2
  by_cases h0 : xs.length = 0
  · have h0' : ((xs.length : Int) == 0) = true := by simp [h0]
    go_enter Try.func29, Try.ntmps29
    go_wp2
    go_ret2
    exact ⟨by simp [rootV, rootErr, h0], Ext.refl _⟩
  · have h0' : ((xs.length : Int) == 0) = false := beq_eq_false_iff_ne.2 (by omega)
    have hx0 : xs ≠ [] := by rintro rfl; simp at h0
    by_cases h1 : 1024 < xs.length
    · have h1' : (1024 : Int) < xs.length := by omega
      go_enter Try.func29, Try.ntmps29
      go_wp2
      go_ret2
      exact ⟨by simp [rootV, rootErr, hx0, h1], Ext.refl _⟩
    · have h1' : ¬ (1024 : Int) < xs.length := by omega
      have T := Lib.hid (rtop_walk _ xs _ w (Nat.le_refl _) (by omega) S)
      clear S
      go_enter Try.func29, Try.ntmps29
      go_wp2_with (go_at_call 45; go_must (refine T.out.mono ?_); rintro e w1 ⟨rfl, hx⟩)
      go_ret2
      exact ⟨by simp [rootV, rootErr, hx0, h1], hx⟩

set_option maxHeartbeats 400000 in
theorem rpath_walk (v : Value) (xs : List Int) (i : Int) (w : World) (S : Sl w 1 encU v xs) :
    Calls Try.prog 30 #[v, .int .i64 i] w fun e w' => ∃ p, e = .returned (.tuple #[p, .int .i64 (pathErr xs i)]) ∧ OwnR w' w.heap.size 24 1 encU p (pathL xs i) ∧ Ext w w' := by
  obtain ⟨a?, cap, rfl, h1, h2, h3⟩ := S.len
  clear h1 h2
  have R := Lib.hid (rroot_walk _ xs w S)
  by_cases he : rootErr xs = 0
  · have hn := rootErr_zero.1 he
    obtain ⟨hn0, hn1⟩ := hn
    by_cases hi : i < 0 ∨ (xs.length : Int) ≤ i
    · have hpe : pathErr xs i = 1 := by simp [pathErr, he, hi]
      have HP := Lib.hid hpe
      clear hpe
      by_cases hi1 : i < 0
      · clear hi
        go_enter Try.func30, Try.ntmps30
        go_wp2_with (go_at_call 29; go_must (refine R.out.mono ?_); rintro e w1 ⟨rfl, hx⟩)
        go_ret2
        refine ⟨_, by rw [HP.out]; rfl, ?_, hx⟩
        rw [pathL, if_neg (by rw [HP.out]; decide)]; exact OwnR.nil
      · have hi2 : (xs.length : Int) ≤ i := by omega
        clear hi
        go_enter Try.func30, Try.ntmps30
        go_wp2_with (go_at_call 29; go_must (refine R.out.mono ?_); rintro e w1 ⟨rfl, hx⟩)
        go_ret2
        refine ⟨_, by rw [HP.out]; rfl, ?_, hx⟩
        rw [pathL, if_neg (by rw [HP.out]; decide)]; exact OwnR.nil
    · obtain ⟨j, rfl⟩ := Int.eq_ofNat_of_zero_le (show 0 ≤ i by omega)
      have hj : j < xs.length := by omega
      have hpe : pathErr xs j = 0 := by simp [pathErr, he]; omega
      have HP := Lib.hid hpe
      have hj' : ¬ (j : Int) < 0 := by omega
      have hj2 : ¬ (xs.length : Int) ≤ j := by omega
      clear hpe hi
      have hG := Lib.hid (show pathL xs j = wayF xs.length xs j by rw [pathL, if_pos HP.out, wayF_all xs j hj]; rfl)
      go_enter Try.func30, Try.ntmps30
      go_wp2_with fail
      refine R.out.mono ?_
      rintro e w1 ⟨rfl, hx⟩
      go_wp2_with fail
      refine (way_walk _ xs _ j w1 (Nat.le_refl _) (by omega) hj (S.ext hx)).mono ?_
      rintro e w2 ⟨pv, rfl, hpv, hx2⟩
      go_wp2
      go_ret2
      exact ⟨pv, by rw [HP.out]; rfl, by rw [hG.out]; exact hpv.mono hx.size, hx.trans hx2⟩
  · have hpe : pathErr xs i = rootErr xs := by simp [pathErr, he]
    have hne : (rootErr xs == 0) = false := by simp [he]
    have hne2 : (rootErr xs != 0) = true := by simp [he]
    have HP := Lib.hid hpe
    have HE := Lib.hid he
    clear hpe he
    go_enter Try.func30, Try.ntmps30
    go_wp2_with (go_at_call 29; go_must (refine R.out.mono ?_); rintro e w1 ⟨rfl, hx⟩)
    go_ret2
    refine ⟨_, by rw [HP.out]; rfl, ?_, hx⟩
    rw [pathL, if_neg (by rw [HP.out]; exact HE.out)]; exact OwnR.nil
theorem grownF_len : ∀ (f : Nat) (l : List Int) (i : Nat) (wh : Bool), (grownF f l i wh).length ≤ f
  | 0, _, _, _ => Nat.le_refl _
  | f + 1, l, i, wh => by
    unfold grownF
    have h1 := grownF_len f (l.take (split l.length)) i wh
    have h2 := grownF_len f (l.drop (split l.length)) (i - split l.length) false
    split
    · split <;> simp
    · split <;> simp <;> omega

set_option maxHeartbeats 2000000 in
theorem grown_walk : ∀ (n : Nat) (l : List Int) (v : Value) (i : Nat) (wh : Bool) (w : World), l.length ≤ n → n ≤ 100000 → 1 ≤ i → i ≤ l.length → Sl w 1 encU v l →
    Calls Try.prog 47 #[v, .int .i64 i, .bool wh] w fun e w' => ∃ p, e = .returned p ∧ OwnR w' w.heap.size 24 1 encU p (grownF n l i wh) ∧ Ext w w' := by
  intro n
  induction n with
  | zero => intro l v i wh w h1 _ h2 h3; omega
  | succ n ih =>
    intro l v i wh w hn hnn hi1 hi S
    obtain ⟨a?, cap, rfl, h1, h2, h3⟩ := S.len
    obtain ⟨b0, o0, rfl, hc⟩ := S.at1 0 (by omega)
    by_cases hil : i = l.length
    · subst hil
      have he : ((l.length : Int) == l.length) = true := beq_self_eq_true _
      cases wh with
      | true =>
        have hr := Lib.hid (show grownF (n + 1) l l.length true = [] by unfold grownF; rw [if_pos rfl]; rfl)
        clear h1 h2 hc S
        go_enter Try.func47, Try.ntmps47
        go_wp2
        go_ret
        exact ⟨_, rfl, by rw [hr.out]; exact OwnR.nil, Ext.refl _⟩
      | false =>
        have hr := Lib.hid (show grownF (n + 1) l l.length false = [root l] by unfold grownF; rw [if_pos rfl]; rfl)
        have T := Lib.hid (rtop_walk _ l _ w (Nat.le_refl _) (by omega) S)
        clear h1 h2 hc S
        go_enter Try.func47, Try.ntmps47
        go_wp2_with (go_at_call 45; go_must (refine T.out.mono ?_); rintro e w1 ⟨rfl, hx⟩)
        go_ret
        exact ⟨_, rfl, by rw [hr.out]; exact own_lit (enc := encU) w1 #[.int .u64 (root l)] [root l] 1 rfl hx.size rfl rfl (by simp [maxLen]), hx.alloc _⟩
    · have he : ((i : Int) == l.length) = false := by rw [beq_eq_false_iff_ne]; omega
      have hk1 := split_pos l.length
      have hk2 := split_lt (n := l.length) (by omega)
      have hr : grownF (n + 1) l i wh = if i ≤ split l.length then grownF n (l.take (split l.length)) i wh ++ [root (l.drop (split l.length))] else grownF n (l.drop (split l.length)) (i - split l.length) false ++ [root (l.take (split l.length))] := by
        show (if i = l.length then _ else _) = _
        rw [if_neg hil]
      have RS := Lib.hid (rsplit_walk l.length w (by omega) (by omega))
      obtain ⟨k, hk⟩ : ∃ k, split l.length = k := ⟨_, rfl⟩
      rw [hk] at hk1 hk2 hr RS
      have HR := Lib.hid hr
      have IH := Lib.hid ih
      have SL := Lib.hid S
      unfold maxLen at h2
      have hkc : k ≤ cap := by omega
      have hkl : k ≤ l.length := by omega
      have hcne : ¬ cap = k := by omega
      have S1 := Sl_first S k (by omega)
      have S2 := Sl_rest S k (by omega)
      have e1 : (l.take k).length = k := by simp; omega
      have e2 : (l.drop k).length = l.length - k := by simp
      clear hc hil ih hk S hr
      by_cases hik : i ≤ k
      · have hrr := HR.out
        rw [if_pos hik] at hrr
        have HRR := Lib.hid hrr
        have hwl := grownF_len n (l.take k) i wh
        clear hrr HR
        go_enter Try.func47, Try.ntmps47
        go_wp2_with (go_at_call 21; go_must (refine RS.out.mono ?_); rintro e w1 ⟨rfl, rfl⟩)
        apply wp_region_ordX [(0,.det _),(1,.det _),(2,.det _),(3,.det _),(4,.det _),(5,.new (fun _ => True) (fun v w' => OwnR w' w.heap.size 24 1 encU v (grownF n (l.take k) i wh)) undef trivial),(6,.det _),(7,.det _),(8,.det _),(9,.det _),(10,.new (fun _ => True) (Sl1 w.heap.size 24 #[.int .u64 (root (l.drop k))]) undef trivial)] 11 Ext Ext (Ext w) (fun _ => True) wide
          [(0,true),(1,true),(2,true),(3,true),(4,true),(5,true),(6,true),(7,true),(8,true),(9,true),(10,true)] (by kernel_rfl) rfl (by decide) (fun _ _ h => h) (stable_ext _) stable_true (Ext.drawn _ _) trivial ?main
        case main =>
          iterate 5 (apply ordX_det rfl rfl; (intro w' hw'; unfold opR; go_simp; exact ⟨Ext.refl _, rfl⟩); (simp only [List.getElem_toArray, List.getElem_cons_succ, List.getElem_cons_zero, Act.put, List.setIfInBounds_toArray, List.set_cons_succ, List.set_cons_zero]; rfl))
          apply ordX_new (stable_own _ _ _ _ _) rfl rfl
          · intro w' hw'
            refine opR_call rfl (Go.Proofs.enters_of Try.func47 (by kernel_rfl) rfl) (by simp only [List.map_toArray, List.map_cons, List.map_nil, Act.eval, Array.getD_eq_getD_getElem?, List.getElem?_toArray, List.getElem?_cons_succ, List.getElem?_cons_zero, Option.getD_some]; rfl) ?_
            refine (IH.out (l.take k) _ i wh w' (by omega) (by omega) (by omega) (by omega) (S1.ext hw')).mono ?_
            rintro e w4 ⟨p, rfl, hp, hx⟩
            exact ⟨_, rfl, hx, trivial, hp.mono hw'.size⟩
          · intro v; (simp only [List.getElem_toArray, List.getElem_cons_succ, List.getElem_cons_zero, Act.put, List.setIfInBounds_toArray, List.set_cons_succ, List.set_cons_zero]; rfl)
          intro pv _
          iterate 3 (apply ordX_det rfl rfl; (intro w' hw'; unfold opR; go_simp; exact ⟨Ext.refl _, rfl⟩); (simp only [List.getElem_toArray, List.getElem_cons_succ, List.getElem_cons_zero, Act.put, List.setIfInBounds_toArray, List.set_cons_succ, List.set_cons_zero]; rfl))
          (apply ordX_det rfl rfl; (intro w' hw'; refine opR_call rfl (Go.Proofs.enters_of Try.func45 (by kernel_rfl) rfl) (by simp only [List.map_toArray, List.map_cons, List.map_nil, Act.eval, Array.getD_eq_getD_getElem?, List.getElem?_toArray, List.getElem?_cons_succ, List.getElem?_cons_zero, Option.getD_some]; rfl) ?_; refine (rtop_walk _ (l.drop k) _ w' (Nat.le_refl _) (by omega) (S2.ext hw')).mono ?_; rintro e w4 ⟨rfl, hx⟩; exact ⟨_, rfl, hx, rfl⟩); (simp only [List.getElem_toArray, List.getElem_cons_succ, List.getElem_cons_zero, Act.put, List.setIfInBounds_toArray, List.set_cons_succ, List.set_cons_zero]; rfl))
          apply ordX_new (Sl1.stable _ _ _) rfl rfl
          · intro w' hw'; unfold opR; go_simp
            exact ⟨Ext.alloc' _ _, Sl1.new w' _ _ hw'.size⟩
          · intro v; (simp only [List.getElem_toArray, List.getElem_cons_succ, List.getElem_cons_zero, Act.put, List.setIfInBounds_toArray, List.set_cons_succ, List.set_cons_zero]; rfl)
          intro sv _
          refine ordX_nil (l := [_, _]) rfl ?_
          rintro w3 hw3 - ⟨⟨-, hp⟩, b, rfl, hbb, hrow⟩
          refine wpList_own_app et_u64 rfl _ _ rfl hp rfl [root (l.drop k)] ⟨b, 0, none⟩ 1 rfl (by simp [encU]) (fun j u hu => row_cells hrow j u hu) (by simp [encU, Value.oneCell']) (by simp; omega) hw3.size ?_
          intro v' w4 hown' hb' happ' _
          go_wp2
          go_ret
          exact ⟨_, rfl, by rw [HRR.out]; exact hown', Below.trans hw3 hb'⟩
      · have hrr := HR.out
        rw [if_neg hik] at hrr
        have HRR := Lib.hid hrr
        have hwl := grownF_len n (l.drop k) (i - k) false
        have hik2 : (k : Int) ≤ i := by omega
        have hwr : IntKind.i64.wrap ((i : Int) - k) = ((i - k : Nat) : Int) := by rw [IntWalk.i64_in _ ⟨by omega, by omega⟩]; omega
        clear hrr HR
        go_enter Try.func47, Try.ntmps47
        go_wp2_with (go_at_call 21; go_must (refine RS.out.mono ?_); rintro e w1 ⟨rfl, rfl⟩)
        apply wp_region_ordX [(0,.det _),(1,.det _),(2,.det _),(3,.det _),(4,.det _),(5,.det _),(6,.new (fun _ => True) (fun v w' => OwnR w' w.heap.size 24 1 encU v (grownF n (l.drop k) (i - k) false)) undef trivial),(7,.det _),(8,.det _),(9,.det _),(10,.det _),(11,.new (fun _ => True) (Sl1 w.heap.size 24 #[.int .u64 (root (l.take k))]) undef trivial)] 12 Ext Ext (Ext w) (fun _ => True) wide
          [(0,true),(1,true),(2,true),(3,true),(4,true),(5,true),(6,true),(7,true),(8,true),(9,true),(10,true),(11,true)] (by kernel_rfl) rfl (by decide) (fun _ _ h => h) (stable_ext _) stable_true (Ext.drawn _ _) trivial ?main
        case main =>
          iterate 6 (apply ordX_det rfl rfl; (intro w' hw'; unfold opR; go_simp; exact ⟨Ext.refl _, rfl⟩); (simp only [List.getElem_toArray, List.getElem_cons_succ, List.getElem_cons_zero, Act.put, List.setIfInBounds_toArray, List.set_cons_succ, List.set_cons_zero]; rfl))
          apply ordX_new (stable_own _ _ _ _ _) rfl rfl
          · intro w' hw'
            refine opR_call rfl (Go.Proofs.enters_of Try.func47 (by kernel_rfl) rfl) (by simp only [List.map_toArray, List.map_cons, List.map_nil, Act.eval, Array.getD_eq_getD_getElem?, List.getElem?_toArray, List.getElem?_cons_succ, List.getElem?_cons_zero, Option.getD_some]; rfl) ?_
            refine (IH.out (l.drop k) _ (i - k) false w' (by omega) (by omega) (by omega) (by omega) (S2.ext hw')).mono ?_
            rintro e w4 ⟨p, rfl, hp, hx⟩
            exact ⟨_, rfl, hx, trivial, hp.mono hw'.size⟩
          · intro v; (simp only [List.getElem_toArray, List.getElem_cons_succ, List.getElem_cons_zero, Act.put, List.setIfInBounds_toArray, List.set_cons_succ, List.set_cons_zero]; rfl)
          intro pv _
          iterate 3 (apply ordX_det rfl rfl; (intro w' hw'; unfold opR; go_simp; exact ⟨Ext.refl _, rfl⟩); (simp only [List.getElem_toArray, List.getElem_cons_succ, List.getElem_cons_zero, Act.put, List.setIfInBounds_toArray, List.set_cons_succ, List.set_cons_zero]; rfl))
          (apply ordX_det rfl rfl; (intro w' hw'; refine opR_call rfl (Go.Proofs.enters_of Try.func45 (by kernel_rfl) rfl) (by simp only [List.map_toArray, List.map_cons, List.map_nil, Act.eval, Array.getD_eq_getD_getElem?, List.getElem?_toArray, List.getElem?_cons_succ, List.getElem?_cons_zero, Option.getD_some]; rfl) ?_; refine (rtop_walk _ (l.take k) _ w' (Nat.le_refl _) (by omega) (S1.ext hw')).mono ?_; rintro e w4 ⟨rfl, hx⟩; exact ⟨_, rfl, hx, rfl⟩); (simp only [List.getElem_toArray, List.getElem_cons_succ, List.getElem_cons_zero, Act.put, List.setIfInBounds_toArray, List.set_cons_succ, List.set_cons_zero]; rfl))
          apply ordX_new (Sl1.stable _ _ _) rfl rfl
          · intro w' hw'; unfold opR; go_simp
            exact ⟨Ext.alloc' _ _, Sl1.new w' _ _ hw'.size⟩
          · intro v; (simp only [List.getElem_toArray, List.getElem_cons_succ, List.getElem_cons_zero, Act.put, List.setIfInBounds_toArray, List.set_cons_succ, List.set_cons_zero]; rfl)
          intro sv _
          refine ordX_nil (l := [_, _]) rfl ?_
          rintro w3 hw3 - ⟨⟨-, hp⟩, b, rfl, hbb, hrow⟩
          refine wpList_own_app et_u64 rfl _ _ rfl hp rfl [root (l.take k)] ⟨b, 0, none⟩ 1 rfl (by simp [encU]) (fun j u hu => row_cells hrow j u hu) (by simp [encU, Value.oneCell']) (by simp; omega) hw3.size ?_
          intro v' w4 hown' hb' happ' _
          go_wp2
          go_ret
          exact ⟨_, rfl, by rw [HRR.out]; exact hown', Below.trans hw3 hb'⟩
set_option maxHeartbeats 1000000 in
theorem rgrow_walk (v : Value) (xs : List Int) (i : Int) (w : World) (S : Sl w 1 encU v xs) :
    Calls Try.prog 31 #[v, .int .i64 i] w fun e w' => ∃ p, e = .returned (.tuple #[p, .int .i64 (growErr xs i)]) ∧ OwnR w' w.heap.size 24 1 encU p (growL xs i) ∧ Ext w w' := by
  obtain ⟨a?, cap, rfl, h1, h2, h3⟩ := S.len
  clear h1 h2
  have R := Lib.hid (rroot_walk _ xs w S)
  by_cases he : rootErr xs = 0
  · have hn := rootErr_zero.1 he
    obtain ⟨hn0, hn1⟩ := hn
    by_cases hi : i < 1 ∨ (xs.length : Int) < i
    · have hpe : growErr xs i = 1 := by simp only [growErr, he, if_true, if_pos hi]
      have HP := Lib.hid hpe
      clear hpe
      by_cases hi1 : i < 1
      · clear hi
        go_enter Try.func31, Try.ntmps31
        go_wp2_with (go_at_call 29; go_must (refine R.out.mono ?_); rintro e w1 ⟨rfl, hx⟩)
        go_ret2
        refine ⟨_, by rw [HP.out]; rfl, ?_, hx⟩
        rw [growL, if_neg (by rw [HP.out]; decide)]; exact OwnR.nil
      · have hi2 : (xs.length : Int) < i := by omega
        clear hi
        go_enter Try.func31, Try.ntmps31
        go_wp2_with (go_at_call 29; go_must (refine R.out.mono ?_); rintro e w1 ⟨rfl, hx⟩)
        go_ret2
        refine ⟨_, by rw [HP.out]; rfl, ?_, hx⟩
        rw [growL, if_neg (by rw [HP.out]; decide)]; exact OwnR.nil
    · obtain ⟨m, rfl⟩ := Int.eq_ofNat_of_zero_le (show 0 ≤ i by omega)
      have hm1 : 1 ≤ m := by omega
      have hm2 : m ≤ xs.length := by omega
      have hpe : growErr xs m = 0 := by simp only [growErr, he, if_true, if_neg hi]
      have HP := Lib.hid hpe
      have hj' : ¬ (m : Int) < 1 := by omega
      have hj2 : ¬ (xs.length : Int) < m := by omega
      have hmi : (m : Int) - 1 = ((m - 1 : Nat) : Int) := by omega
      clear hpe hi
      have hG := Lib.hid (show growL xs m = grownF xs.length xs m true by rw [growL, if_pos HP.out, grownF_all xs m hm1 hm2]; rfl)
      go_enter Try.func31, Try.ntmps31
      go_wp2_with fail
      refine R.out.mono ?_
      rintro e w1 ⟨rfl, hx⟩
      go_wp2_with fail
      refine (grown_walk _ xs _ m true w1 (Nat.le_refl _) (by omega) hm1 hm2 (S.ext hx)).mono ?_
      rintro e w2 ⟨pv, rfl, hpv, hx2⟩
      go_wp2
      go_ret2
      exact ⟨pv, by rw [HP.out]; rfl, by rw [hG.out]; exact hpv.mono hx.size, hx.trans hx2⟩
  · have hpe : growErr xs i = rootErr xs := by simp only [growErr, if_neg he]
    have hne : (rootErr xs == 0) = false := by simp [he]
    have hne2 : (rootErr xs != 0) = true := by simp [he]
    have HP := Lib.hid hpe
    have HE := Lib.hid he
    clear hpe he
    go_enter Try.func31, Try.ntmps31
    go_wp2_with (go_at_call 29; go_must (refine R.out.mono ?_); rintro e w1 ⟨rfl, hx⟩)
    go_ret2
    refine ⟨_, by rw [HP.out]; rfl, ?_, hx⟩
    rw [growL, if_neg (by rw [HP.out]; exact HE.out)]; exact OwnR.nil
end Go.Proofs.Yteelklpppfahcaa
