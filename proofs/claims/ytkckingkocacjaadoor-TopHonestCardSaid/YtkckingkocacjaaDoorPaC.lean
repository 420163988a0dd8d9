/-
  Walks: partial.Valid, common, Tone.
-/
import Derived.Test.YtkckingkocacjaaDoorPaB
set_option linter.unusedVariables false
namespace Go.Proofs.YtkckingkocacjaaDoor
open Go.RowKit Go.Sx Go.Sx.Sz

set_option maxHeartbeats 1000000 in
theorem rvalid_walk (v : Value) (l : List Row) (w : World) (G : Gv 0 1 w) (S : Sl w 3 encR v l) :
    Calls Tryd.prog 18 #[v] w fun e w' => e = .returned (.bool (rowsOk l)) ∧ Ext w w' := by
  have hE : Hid (rootsE l = if rowsOk l = true then 0 else 1) := Lib.hid rfl
  cases hr : rowsOk l with
  | true =>
    have HE : Hid (rootsE l = 0) := Lib.hid (rootsE_ok hr)
    clear hr hE
    go_enter Tryd.func18, Tryd.ntmps18
    go_wp2_with fail
    refine (roots_walk v l _ G S).mono ?_
    rw [HE.out]
    rintro e w1 ⟨v1, rfl, S1, x1⟩
    go_wp2
    go_ret
    exact ⟨rfl, x1⟩
  | false =>
    have HE : Hid (rootsE l = 1) := Lib.hid (by rw [rootsE, hr]; rfl)
    clear hr hE
    go_enter Tryd.func18, Tryd.ntmps18
    go_wp2_with fail
    refine (roots_walk v l _ G S).mono ?_
    rw [HE.out]
    rintro e w1 ⟨v1, rfl, S1, x1⟩
    go_wp2
    go_ret
    exact ⟨rfl, x1⟩

set_option maxHeartbeats 2000000 in
theorem common_walk (v : Value) (l : List S2) (hl : ∀ s ∈ l, szOk s = true) (w : World) (S : Sl w 2 encS v l) :
    Calls Tryd.prog 50 #[v] w fun e w' => e = .returned (.tuple #[.agg #[.int .i64 (commonR l).1.lo, .int .i64 (commonR l).1.hi], .int .i64 (commonR l).2]) ∧ Ext w w' := by
  obtain ⟨a?, cap, rfl, h1, h2, h3⟩ := S.len
  clear h1 h2
  have hlb : l.length ≤ 140737488351232 := h3
  have HL := Lib.hid hl; clear hl
  go_enter Tryd.func50, Tryd.ntmps50
  go_wp2_with fail
  refine (every_walk _).mono ?_
  rintro e w1 ⟨rfl, x1⟩
  obtain ⟨hc1, hf1⟩ := x1.rules
  have hz1_0 : w.heap.size < w1.heap.size := by have := x1.size; (try simp at this); omega
  obtain ⟨hl1_0, hl1_1, hl1_2, hl1_3⟩ : w.heap.size < w1.heap.size + 1 ∧ w.heap.size < w1.heap.size + 1 + 1 ∧ w.heap.size < w1.heap.size + 1 + 1 + 1 ∧ ¬ w.heap.size = w1.heap.size := by omega
  have X1 : Ext w w1 := Ext.trans (by repeat (first | with_reducible exact Ext.refl _ | with_reducible assumption | with_reducible apply Ext.alloc | with_reducible apply Ext.drew | (with_reducible refine Ext.setCell ?_ (by (try simp) <;> omega) _))) x1
  have g0 : w1.heap[w.heap.size]? = some (.cells #[.int .i64 0, .int .i64 0] 47 (0, 0)) := block_ext x1 (block_new w _)
  have hN := hz1_0
  clear x1 hc1 hf1 hz1_0 hl1_0 hl1_1 hl1_2 hl1_3
  obtain ⟨N, hNN⟩ : ∃ N, w1.heap.size = N := ⟨_, rfl⟩
  have HN := Lib.hid hNN
  rw [hNN] at hN
  clear hNN
  go_wp2_with fail
  rw [HN.out]
  go_loopw [12] (fun i wr => ∃ k : Nat, k ≤ l.length ∧ i = .int .i64 k ∧ (common (l.take k)).lo ≤ (common (l.take k)).hi ∧ wr.heap[w.heap.size]? = some (.cells #[.int .i64 0, .int .i64 0] 47 (0, 0)) ∧ wr.heap[N]? = some (.cells #[.int .i64 (common (l.take k)).lo, .int .i64 (common (l.take k)).hi] 47 (0, 0)) ∧ Ext w wr) (fun i _ => l.length - (intOf i).toNat)
  case atStart => exact ⟨0, by omega, rfl, by show (-100000000000000 : Int) ≤ 100000000000000; decide, block_alloc g0 _, block_at HN.out _, (by repeat (first | with_reducible exact Ext.refl _ | with_reducible assumption | with_reducible apply Ext.alloc | with_reducible apply Ext.drew | (with_reducible refine Ext.setCell ?_ (by (try simp) <;> omega) _)))⟩
  case round =>
    obtain ⟨k, hk, rfl, hne, c0, c1, X⟩ := hrel
    obtain ⟨r0, f0⟩ := block_rules c0
    obtain ⟨r1, f1⟩ := block_rules c1
    have hb0 := block_lt c0
    have hb1 := block_lt c1
    clear g0 HN X1 w1
    by_cases hlt : k < l.length
    · obtain ⟨b, o, rfl, q0, q1⟩ := Sl.size (S.ext X) k hlt
      have hso := Lib.hid (HL.out l[k] (List.getElem_mem _))
      have hco := Lib.hid (common_ok hne)
      have hct := common_take l k hlt
      have hmono := common_mono l (k + 1)
      obtain ⟨t, ht⟩ : ∃ t, l[k] = t := ⟨_, rfl⟩
      obtain ⟨c, hc⟩ : ∃ c, common (l.take k) = c := ⟨_, rfl⟩
      rw [ht] at q0 q1 hct hso
      rw [hc] at hne r1 c1 hct hco
      rw [hct] at hmono
      have HT := Lib.hid hct
      have hn0 : ¬ w.heap.size = wr.heap.size := by omega
      have hn1 : ¬ N = wr.heap.size := by omega
      have hl0 : w.heap.size < wr.heap.size + 1 := by omega
      have hl1 : N < wr.heap.size + 1 := by omega
      clear ht hct HL
      by_cases hm : (meet c t).lo ≤ (meet c t).hi
      · have HM : Hid (meetR c t = (meet c t, 0)) := Lib.hid (by rw [meetR, if_pos ⟨hco.out, hso.out⟩, if_pos hm])
        go_wp2_with fail
        refine (meet_walk c t _).mono ?_
        rw [HM.out]
        rintro e w2 ⟨rfl, x2⟩
        have X2 : Ext wr w2 := Ext.trans (by repeat (first | with_reducible exact Ext.refl _ | with_reducible assumption | with_reducible apply Ext.alloc | with_reducible apply Ext.drew | (with_reducible refine Ext.setCell ?_ (by (try simp) <;> omega) _))) x2
        have XX := X.trans X2
        have d0 := block_ext X2 c0
        have d1 := block_ext X2 c1
        obtain ⟨p0, g0⟩ := block_rules d0
        obtain ⟨p1, g1⟩ := block_rules d1
        have e1 : ((w2.setCell ⟨N, 0, none⟩ (.int .i64 (meet c t).lo)).setCell ⟨N, 1, none⟩ (.int .i64 (meet c t).hi)).heap[N]? = some (.cells #[.int .i64 (meet c t).lo, .int .i64 (meet c t).hi] 47 (0, 0)) := block_set (block_set d1 0 _) 1 _
        have e0 := block_ne (block_ne d0 (g := N) 0 (.int .i64 (meet c t).lo) (by omega)) (g := N) 1 (.int .i64 (meet c t).hi) (by omega)
        have E0 := Lib.hid e0; have E1 := Lib.hid e1
        have hb2 := block_lt d1
        clear e0 e1 d0 d1 c0 c1 r0 r1 f0 f1 x2 X2 hmono
        go_wp2
        go_roundw
        case rel => exact ⟨k + 1, by omega, by go_num, by rw [HT.out]; exact hm, block_alloc E0.out _, by rw [HT.out]; exact block_alloc E1.out _, (by repeat (first | with_reducible exact Ext.refl _ | with_reducible assumption | with_reducible apply Ext.alloc | with_reducible apply Ext.drew | (with_reducible refine Ext.setCell ?_ (by (try simp) <;> omega) _)))⟩
        case measure => simp [intOf]; omega
      · have HM : Hid (meetR c t = (zeroS, 4)) := Lib.hid (by rw [meetR, if_pos ⟨hco.out, hso.out⟩, if_neg hm])
        have HR : Hid (commonR l = (zeroS, 23)) := Lib.hid (by rw [commonR, if_neg (by omega)])
        go_wp2_with fail
        refine (meet_walk c t _).mono ?_
        rw [HM.out]
        rintro e w2 ⟨rfl, x2⟩
        have X2 : Ext wr w2 := Ext.trans (by repeat (first | with_reducible exact Ext.refl _ | with_reducible assumption | with_reducible apply Ext.alloc | with_reducible apply Ext.drew | (with_reducible refine Ext.setCell ?_ (by (try simp) <;> omega) _))) x2
        have XX := X.trans X2
        have d0 := block_ext X2 c0
        obtain ⟨p0, g0⟩ := block_rules d0
        have hb2 := block_lt d0
        clear d0 c0 c1 r0 r1 f0 f1 x2 X2 hmono
        go_wp2
        refine bodyPost_ret (v := .tuple #[.agg #[.int .i64 0, .int .i64 0], .int .i64 23]) (by simp [results, Tryd.results50, go_sem, *]) rfl ⟨?_, (by repeat (first | with_reducible exact Ext.refl _ | with_reducible assumption | with_reducible apply Ext.alloc | with_reducible apply Ext.drew | (with_reducible refine Ext.setCell ?_ (by (try simp) <;> omega) _)))⟩
        rw [HR.out] <;> rfl
    · obtain rfl : k = l.length := by omega
      rw [List.take_length] at *
      have HR : Hid (commonR l = (common l, 0)) := Lib.hid (by rw [commonR, if_pos hne])
      clear c0 c1
      go_wp2
      refine bodyPost_ret (v := .tuple #[.agg #[.int .i64 (common l).lo, .int .i64 (common l).hi], .int .i64 0]) (by simp [results, Tryd.results50, go_sem, *]) rfl ⟨?_, (by repeat (first | with_reducible exact Ext.refl _ | with_reducible assumption | with_reducible apply Ext.alloc | with_reducible apply Ext.drew | (with_reducible refine Ext.setCell ?_ (by (try simp) <;> omega) _)))⟩
      rw [HR.out] <;> rfl
end Go.Proofs.YtkckingkocacjaaDoor
