/-
  Walks: the reference's Top, Root, way, Path, grown, Grow.
-/
import Derived.Test.YteelklpppfahcaaRepK
import Derived.Test.YteelklpppfahcaaRepR
import Derived.Test.YteelklpppfahcaaDx
set_option linter.unusedVariables false
namespace Go.Proofs.Yteelklpppfahcaa
open Go.RowKit Go.Sx Go.Sx.Rep

/-- A slice of a slice. -/
theorem Sl_mid {α : Type} {w : World} {sz : Nat} {enc : α → List Value} {b o n cap : Nat} {xs : List α} (S : Sl w sz enc (.slice (some ⟨b, o, none⟩) n cap) xs) (k m c : Nat) (hm : m ≤ xs.length) (hk : k ≤ m) (hc : m - k ≤ c) (hc2 : c ≤ maxLen) :
    Sl w sz enc (.slice (some ⟨b, o + k * sz, none⟩) (m - k) c) ((xs.take m).drop k) := by
  obtain ⟨a, c', e, h1, h2, h3, h4⟩ := S
  injection e with e1 e2 e3
  subst e2
  have hl : ((xs.take m).drop k).length = m - k := by simp; omega
  refine ⟨_, c, by rw [hl], by omega, hc2, by omega, fun i hi => ⟨_, rfl, fun j hj => ?_⟩⟩
  obtain ⟨a', ha, hcc⟩ := h4 (k + i) (by omega)
  cases e1.trans ha
  have := hcc j hj
  rw [Addr.add_lit] at this ⊢
  rw [show o + k * sz + (i * sz + j) = o + ((k + i) * sz + j) by rw [Nat.add_mul]; omega, this]
  simp

theorem Sl_first {α : Type} {w : World} {sz : Nat} {enc : α → List Value} {b o n cap : Nat} {xs : List α} (S : Sl w sz enc (.slice (some ⟨b, o, none⟩) n cap) xs) (m : Nat) (hm : m ≤ xs.length) :
    Sl w sz enc (.slice (some ⟨b, o, none⟩) m cap) (xs.take m) := by
  obtain ⟨_, _, e, h1, h2, h3⟩ := S.len
  injection e with e1 e2 e3
  subst e3
  simpa using Sl_mid S 0 m cap hm (Nat.zero_le _) (by omega) h2
theorem Sl_rest {α : Type} {w : World} {enc : α → List Value} {b o n cap : Nat} {xs : List α} (S : Sl w 1 enc (.slice (some ⟨b, o, none⟩) n cap) xs) (k : Nat) (hk : k ≤ xs.length) :
    Sl w 1 enc (.slice (some ⟨b, o + k, none⟩) (n - k) (cap - k)) (xs.drop k) := by
  obtain ⟨_, _, e, h1, h2, h3⟩ := S.len
  injection e with e1 e2 e3
  subst e2 e3
  simpa using Sl_mid S k xs.length (cap - k) (Nat.le_refl _) hk (by omega) (by omega)

set_option maxHeartbeats 1000000 in
theorem rtop_walk : ∀ (n : Nat) (l : List Int) (v : Value) (w : World), l.length ≤ n → 0 < l.length → Sl w 1 encU v l →
    Calls Try.prog 45 #[v] w fun e w' => e = .returned (.int .u64 (root l)) ∧ Ext w w' := by
  intro n
  induction n with
  | zero => intro l v w h1 h2; omega
  | succ n ih =>
    intro l v w hn hpos S
    obtain ⟨a?, cap, rfl, h1, h2, h3⟩ := S.len
    obtain ⟨b0, o0, rfl, hc⟩ := S.at1 0 hpos
    simp only [encU, List.getD_cons_zero, Nat.add_zero] at hc
    by_cases h1' : l.length = 1
    · have he : ((l.length : Int) == 1) = true := by rw [beq_iff_eq]; omega
      have hr := Lib.hid (show root l = l[0] by
        match l, h1' with
        | [x], _ => rfl)
      clear h1 h2
      go_enter Try.func45, Try.ntmps45
      go_wp2
      go_ret
      exact ⟨by rw [hr.out]; rfl, Ext.refl _⟩
    · have he : ((l.length : Int) == 1) = false := by rw [beq_eq_false_iff_ne]; omega
      have hk1 := split_pos l.length
      have hk2 := split_lt (n := l.length) (by omega)
      have hr := Lib.hid (root_split l (by omega))
      have RS := Lib.hid (rsplit_walk l.length w (by omega) (by omega))
      obtain ⟨k, hk⟩ : ∃ k, split l.length = k := ⟨_, rfl⟩
      rw [hk] at hk1 hk2 hr RS
      have HK := Lib.hid hk
      have IH := Lib.hid ih
      have SL := Lib.hid S
      clear hc h1' ih hk S
      unfold maxLen at h2
      have hkc : k ≤ cap := by omega
      have hkl : k ≤ l.length := by omega
      have hcne : ¬ cap = k := by omega
      go_enter Try.func45, Try.ntmps45
      go_wp2_with (go_at_call 21; go_must (refine RS.out.mono ?_); rintro e w1 ⟨rfl, rfl⟩)
      refine wp_region_ord [(0,true),(1,true),(2,true),(3,true),(4,true),(5,true),(6,true),(7,true),(8,true),(9,true)] 10 Ext (Ext w) wide (by kernel_rfl) (stable_ext _) (Ext.drawn _ _) ?_
      have S1 := Sl_first SL.out k (by omega)
      have S2 := Sl_rest SL.out k (by omega)
      have e1 : (l.take k).length = k := by simp; omega
      have e2 : (l.drop k).length = l.length - k := by simp
      iterate 3 (apply wpOrd_det rfl rfl; (intro w' hw'; unfold opR; go_simp; exact ⟨Ext.refl _, rfl⟩); (simp only [List.getElem_toArray, List.getElem_cons_succ, List.getElem_cons_zero, Act.put, List.setIfInBounds_toArray, List.set_cons_succ, List.set_cons_zero]; rfl))
      (apply wpOrd_det rfl rfl; (intro w' hw'; refine opR_call rfl (Go.Proofs.enters_of Try.func45 (by kernel_rfl) rfl) (by simp only [List.map_toArray, List.map_cons, List.map_nil, Act.eval, Array.getD_eq_getD_getElem?, List.getElem?_toArray, List.getElem?_cons_succ, List.getElem?_cons_zero, Option.getD_some]; rfl) ?_; refine (IH.out (l.take k) _ w' (by omega) (by omega) (S1.ext hw')).mono ?_; rintro e w4 ⟨rfl, hx⟩; exact ⟨_, rfl, hx, rfl⟩); (simp only [List.getElem_toArray, List.getElem_cons_succ, List.getElem_cons_zero, Act.put, List.setIfInBounds_toArray, List.set_cons_succ, List.set_cons_zero]; rfl))
      iterate 3 (apply wpOrd_det rfl rfl; (intro w' hw'; unfold opR; go_simp; exact ⟨Ext.refl _, rfl⟩); (simp only [List.getElem_toArray, List.getElem_cons_succ, List.getElem_cons_zero, Act.put, List.setIfInBounds_toArray, List.set_cons_succ, List.set_cons_zero]; rfl))
      (apply wpOrd_det rfl rfl; (intro w' hw'; refine opR_call rfl (Go.Proofs.enters_of Try.func45 (by kernel_rfl) rfl) (by simp only [List.map_toArray, List.map_cons, List.map_nil, Act.eval, Array.getD_eq_getD_getElem?, List.getElem?_toArray, List.getElem?_cons_succ, List.getElem?_cons_zero, Option.getD_some]; rfl) ?_; refine (IH.out (l.drop k) _ w' (by omega) (by omega) (S2.ext hw')).mono ?_; rintro e w4 ⟨rfl, hx⟩; exact ⟨_, rfl, hx, rfl⟩); (simp only [List.getElem_toArray, List.getElem_cons_succ, List.getElem_cons_zero, Act.put, List.setIfInBounds_toArray, List.set_cons_succ, List.set_cons_zero]; rfl))
      (apply wpOrd_det rfl rfl; (intro w' hw'; refine opR_call rfl (Go.Proofs.enters_of Try.func28 (by kernel_rfl) rfl) (by simp only [List.map_toArray, List.map_cons, List.map_nil, Act.eval, Array.getD_eq_getD_getElem?, List.getElem?_toArray, List.getElem?_cons_succ, List.getElem?_cons_zero, Option.getD_some]; rfl) ?_; refine (rnode_walk _ _ w').mono ?_; rintro e w4 ⟨rfl, hx⟩; exact ⟨_, rfl, hx, rfl⟩); (simp only [List.getElem_toArray, List.getElem_cons_succ, List.getElem_cons_zero, Act.put, List.setIfInBounds_toArray, List.set_cons_succ, List.set_cons_zero]; rfl))
      (apply wpOrd_det rfl rfl; (intro w' hw'; unfold opR; go_simp; exact ⟨Ext.refl _, rfl⟩); (simp only [List.getElem_toArray, List.getElem_cons_succ, List.getElem_cons_zero, Act.put, List.setIfInBounds_toArray, List.set_cons_succ, List.set_cons_zero]; rfl))
      refine wpOrd_nil rfl ?_
      intro w3 hw3
      go_wp2
      go_ret
      exact ⟨by rw [hr.out]; rfl, hw3⟩

theorem wayF_len : ∀ (f : Nat) (l : List Int) (i : Nat), (wayF f l i).length ≤ f
  | 0, _, _ => Nat.le_refl _
  | f + 1, l, i => by
    unfold wayF
    have h1 := wayF_len f (l.take (split l.length)) i
    have h2 := wayF_len f (l.drop (split l.length)) (i - split l.length)
    split
    · simp
    · split <;> simp <;> omega

theorem stable_own {α : Type} (B : Nat) (e : TypeId) (sz : Nat) (enc : α → List Value) (xs : List α) (v : Value) : Stable Ext (fun w => OwnR w B e sz enc v xs) := fun _ _ h k => OwnR.ext h k
theorem stable_true : Stable Ext (fun _ => True) := fun _ _ _ _ => trivial

set_option maxHeartbeats 2000000 in
theorem way_walk : ∀ (n : Nat) (l : List Int) (v : Value) (i : Nat) (w : World), l.length ≤ n → n ≤ 100000 → i < l.length → Sl w 1 encU v l →
    Calls Try.prog 46 #[v, .int .i64 i] w fun e w' => ∃ p, e = .returned p ∧ OwnR w' w.heap.size 24 1 encU p (wayF n l i) ∧ Ext w w' := by
  intro n
  induction n with
  | zero => intro l v i w h1 _ h2; omega
  | succ n ih =>
    intro l v i w hn hnn hi S
    obtain ⟨a?, cap, rfl, h1, h2, h3⟩ := S.len
    obtain ⟨b0, o0, rfl, hc⟩ := S.at1 0 (by omega)
    by_cases h1' : l.length = 1
    · have he : ((l.length : Int) == 1) = true := by rw [beq_iff_eq]; omega
      have hr := Lib.hid (show wayF (n + 1) l i = [] by unfold wayF; rw [if_pos (by omega)])
      clear h1 h2 hc S
      go_enter Try.func46, Try.ntmps46
      go_wp2
      go_ret
      exact ⟨_, rfl, by rw [hr.out]; exact OwnR.nil, Ext.refl _⟩
    · have he : ((l.length : Int) == 1) = false := by rw [beq_eq_false_iff_ne]; omega
      have hk1 := split_pos l.length
      have hk2 := split_lt (n := l.length) (by omega)
      have hr : wayF (n + 1) l i = if i < split l.length then wayF n (l.take (split l.length)) i ++ [root (l.drop (split l.length))] else wayF n (l.drop (split l.length)) (i - split l.length) ++ [root (l.take (split l.length))] := by
        show (if l.length ≤ 1 then _ else _) = _
        rw [if_neg (by omega)]
      have RS := Lib.hid (rsplit_walk l.length w (by omega) (by omega))
      obtain ⟨k, hk⟩ : ∃ k, split l.length = k := ⟨_, rfl⟩
      rw [hk] at hk1 hk2 hr RS
      have HR := Lib.hid hr
      have IH := Lib.hid ih
      have SL := Lib.hid S
      unfold maxLen at h2
      have hkc : k ≤ cap := by omega
      have hkl : k ≤ l.length := by omega
      have hcne : ¬ cap = k := by omega
      have S1 := Sl_first S k (by omega)
      have S2 := Sl_rest S k (by omega)
      have e1 : (l.take k).length = k := by simp; omega
      have e2 : (l.drop k).length = l.length - k := by simp
      clear hc h1' ih hk S hr
      by_cases hik : i < k
      · have hrr := HR.out
        rw [if_pos hik] at hrr
        have HRR := Lib.hid hrr
        have hwl := wayF_len n (l.take k) i
        clear hrr HR
        go_enter Try.func46, Try.ntmps46
        go_wp2_with (go_at_call 21; go_must (refine RS.out.mono ?_); rintro e w1 ⟨rfl, rfl⟩)
        apply wp_region_ordX [(0,.det _),(1,.det _),(2,.det _),(3,.det _),(4,.new (fun _ => True) (fun v w' => OwnR w' w.heap.size 24 1 encU v (wayF n (l.take k) i)) undef trivial),(5,.det _),(6,.det _),(7,.det _),(8,.det _),(9,.new (fun _ => True) (Sl1 w.heap.size 24 #[.int .u64 (root (l.drop k))]) undef trivial)] 10 Ext Ext (Ext w) (fun _ => True) wide
          [(0,true),(1,true),(2,true),(3,true),(4,true),(5,true),(6,true),(7,true),(8,true),(9,true)] (by kernel_rfl) rfl (by decide) (fun _ _ h => h) (stable_ext _) stable_true (Ext.drawn _ _) trivial ?main
        case main =>
          iterate 4 (apply ordX_det rfl rfl; (intro w' hw'; unfold opR; go_simp; exact ⟨Ext.refl _, rfl⟩); (simp only [List.getElem_toArray, List.getElem_cons_succ, List.getElem_cons_zero, Act.put, List.setIfInBounds_toArray, List.set_cons_succ, List.set_cons_zero]; rfl))
          apply ordX_new (stable_own _ _ _ _ _) rfl rfl
          · intro w' hw'
            refine opR_call rfl (Go.Proofs.enters_of Try.func46 (by kernel_rfl) rfl) (by simp only [List.map_toArray, List.map_cons, List.map_nil, Act.eval, Array.getD_eq_getD_getElem?, List.getElem?_toArray, List.getElem?_cons_succ, List.getElem?_cons_zero, Option.getD_some]; rfl) ?_
            refine (IH.out (l.take k) _ i w' (by omega) (by omega) (by omega) (S1.ext hw')).mono ?_
            rintro e w4 ⟨p, rfl, hp, hx⟩
            exact ⟨_, rfl, hx, trivial, hp.mono hw'.size⟩
          · intro v; (simp only [List.getElem_toArray, List.getElem_cons_succ, List.getElem_cons_zero, Act.put, List.setIfInBounds_toArray, List.set_cons_succ, List.set_cons_zero]; rfl)
          intro pv _
          iterate 3 (apply ordX_det rfl rfl; (intro w' hw'; unfold opR; go_simp; exact ⟨Ext.refl _, rfl⟩); (simp only [List.getElem_toArray, List.getElem_cons_succ, List.getElem_cons_zero, Act.put, List.setIfInBounds_toArray, List.set_cons_succ, List.set_cons_zero]; rfl))
          (apply ordX_det rfl rfl; (intro w' hw'; refine opR_call rfl (Go.Proofs.enters_of Try.func45 (by kernel_rfl) rfl) (by simp only [List.map_toArray, List.map_cons, List.map_nil, Act.eval, Array.getD_eq_getD_getElem?, List.getElem?_toArray, List.getElem?_cons_succ, List.getElem?_cons_zero, Option.getD_some]; rfl) ?_; refine (rtop_walk _ (l.drop k) _ w' (Nat.le_refl _) (by omega) (S2.ext hw')).mono ?_; rintro e w4 ⟨rfl, hx⟩; exact ⟨_, rfl, hx, rfl⟩); (simp only [List.getElem_toArray, List.getElem_cons_succ, List.getElem_cons_zero, Act.put, List.setIfInBounds_toArray, List.set_cons_succ, List.set_cons_zero]; rfl))
          apply ordX_new (Sl1.stable _ _ _) rfl rfl
          · intro w' hw'; unfold opR; go_simp
            exact ⟨Ext.alloc' _ _, Sl1.new w' _ _ hw'.size⟩
          · intro v; (simp only [List.getElem_toArray, List.getElem_cons_succ, List.getElem_cons_zero, Act.put, List.setIfInBounds_toArray, List.set_cons_succ, List.set_cons_zero]; rfl)
          intro sv _
          refine ordX_nil (l := [_, _]) rfl ?_
          rintro w3 hw3 - ⟨⟨-, hp⟩, b, rfl, hbb, hrow⟩
          refine wpList_own_app et_u64 rfl _ _ rfl hp rfl [root (l.drop k)] ⟨b, 0, none⟩ 1 rfl (by simp [encU]) (fun j u hu => row_cells hrow j u hu) (by simp [encU, Value.oneCell']) (by simp; omega) hw3.size ?_
          intro v' w4 hown' hb' happ' _
          go_wp2
          go_ret
          exact ⟨_, rfl, by rw [HRR.out]; exact hown', Below.trans hw3 hb'⟩
      · have hrr := HR.out
        rw [if_neg hik] at hrr
        have HRR := Lib.hid hrr
        have hwl := wayF_len n (l.drop k) (i - k)
        have hik2 : (k : Int) ≤ i := by omega
        have hwr : IntKind.i64.wrap ((i : Int) - k) = ((i - k : Nat) : Int) := by rw [IntWalk.i64_in _ ⟨by omega, by omega⟩]; omega
        clear hrr HR
        go_enter Try.func46, Try.ntmps46
        go_wp2_with (go_at_call 21; go_must (refine RS.out.mono ?_); rintro e w1 ⟨rfl, rfl⟩)
        apply wp_region_ordX [(0,.det _),(1,.det _),(2,.det _),(3,.det _),(4,.det _),(5,.det _),(6,.new (fun _ => True) (fun v w' => OwnR w' w.heap.size 24 1 encU v (wayF n (l.drop k) (i - k))) undef trivial),(7,.det _),(8,.det _),(9,.det _),(10,.det _),(11,.new (fun _ => True) (Sl1 w.heap.size 24 #[.int .u64 (root (l.take k))]) undef trivial)] 12 Ext Ext (Ext w) (fun _ => True) wide
          [(0,true),(1,true),(2,true),(3,true),(4,true),(5,true),(6,true),(7,true),(8,true),(9,true),(10,true),(11,true)] (by kernel_rfl) rfl (by decide) (fun _ _ h => h) (stable_ext _) stable_true (Ext.drawn _ _) trivial ?main
        case main =>
          iterate 6 (apply ordX_det rfl rfl; (intro w' hw'; unfold opR; go_simp; exact ⟨Ext.refl _, rfl⟩); (simp only [List.getElem_toArray, List.getElem_cons_succ, List.getElem_cons_zero, Act.put, List.setIfInBounds_toArray, List.set_cons_succ, List.set_cons_zero]; rfl))
          apply ordX_new (stable_own _ _ _ _ _) rfl rfl
          · intro w' hw'
            refine opR_call rfl (Go.Proofs.enters_of Try.func46 (by kernel_rfl) rfl) (by simp only [List.map_toArray, List.map_cons, List.map_nil, Act.eval, Array.getD_eq_getD_getElem?, List.getElem?_toArray, List.getElem?_cons_succ, List.getElem?_cons_zero, Option.getD_some]; rfl) ?_
            refine (IH.out (l.drop k) _ (i - k) w' (by omega) (by omega) (by omega) (S2.ext hw')).mono ?_
            rintro e w4 ⟨p, rfl, hp, hx⟩
            exact ⟨_, rfl, hx, trivial, hp.mono hw'.size⟩
          · intro v; (simp only [List.getElem_toArray, List.getElem_cons_succ, List.getElem_cons_zero, Act.put, List.setIfInBounds_toArray, List.set_cons_succ, List.set_cons_zero]; rfl)
          intro pv _
          iterate 3 (apply ordX_det rfl rfl; (intro w' hw'; unfold opR; go_simp; exact ⟨Ext.refl _, rfl⟩); (simp only [List.getElem_toArray, List.getElem_cons_succ, List.getElem_cons_zero, Act.put, List.setIfInBounds_toArray, List.set_cons_succ, List.set_cons_zero]; rfl))
          (apply ordX_det rfl rfl; (intro w' hw'; refine opR_call rfl (Go.Proofs.enters_of Try.func45 (by kernel_rfl) rfl) (by simp only [List.map_toArray, List.map_cons, List.map_nil, Act.eval, Array.getD_eq_getD_getElem?, List.getElem?_toArray, List.getElem?_cons_succ, List.getElem?_cons_zero, Option.getD_some]; rfl) ?_; refine (rtop_walk _ (l.take k) _ w' (Nat.le_refl _) (by omega) (S1.ext hw')).mono ?_; rintro e w4 ⟨rfl, hx⟩; exact ⟨_, rfl, hx, rfl⟩); (simp only [List.getElem_toArray, List.getElem_cons_succ, List.getElem_cons_zero, Act.put, List.setIfInBounds_toArray, List.set_cons_succ, List.set_cons_zero]; rfl))
          apply ordX_new (Sl1.stable _ _ _) rfl rfl
          · intro w' hw'; unfold opR; go_simp
            exact ⟨Ext.alloc' _ _, Sl1.new w' _ _ hw'.size⟩
          · intro v; (simp only [List.getElem_toArray, List.getElem_cons_succ, List.getElem_cons_zero, Act.put, List.setIfInBounds_toArray, List.set_cons_succ, List.set_cons_zero]; rfl)
          intro sv _
          refine ordX_nil (l := [_, _]) rfl ?_
          rintro w3 hw3 - ⟨⟨-, hp⟩, b, rfl, hbb, hrow⟩
          refine wpList_own_app et_u64 rfl _ _ rfl hp rfl [root (l.take k)] ⟨b, 0, none⟩ 1 rfl (by simp [encU]) (fun j u hu => row_cells hrow j u hu) (by simp [encU, Value.oneCell']) (by simp; omega) hw3.size ?_
          intro v' w4 hown' hb' happ' _
          go_wp2
          go_ret
          exact ⟨_, rfl, by rw [HRR.out]; exact hown', Below.trans hw3 hb'⟩
end Go.Proofs.Yteelklpppfahcaa
