/-
  Walks of potential: (*tree).steps, the iterator up to the anchor.
-/
import Derived.Test.YtdpegkkbhanjkaaDoorPlA
import Derived.Test.YtdpegkkbhanjkaaDoorLibD
set_option linter.unusedVariables false
namespace Go.Sx.Po
open Go.Sx.Sz Go.Sx.Sc
/-- Where the way up stands after k steps. -/
def curS (s : Sc) (n : Int) : Nat → Int
  | 0 => n
  | k + 1 => (upF s (curS s n k).toNat).a
theorem curS_succ (s : Sc) (n : Int) (k : Nat) : curS s (upF s n.toNat).a k = curS s n (k + 1) := by
  induction k with
  | zero => rfl
  | succ k ih => rw [curS, ih]; rfl
theorem chnL_at {s : Sc} (h : ScOk s) : ∀ (f : Nat) (n : Int), -1 ≤ n → n < f → n < s.notes.length → ∀ k, (k < (chnL s f n).length ↔ (0 ≤ curS s n k ∧ k ≤ (chnL s f n).length)) ∧ (∀ hk : k < (chnL s f n).length, (chnL s f n)[k] = upF s (curS s n k).toNat) ∧ (k ≤ (chnL s f n).length → -1 ≤ curS s n k ∧ curS s n k < s.notes.length)
  | 0, n, h0, h1, h2, k => by
    obtain rfl : n = -1 := by omega
    have e : chnL s 0 (-1) = [] := rfl
    rw [e]
    refine ⟨⟨fun hk => absurd hk (by simp), fun ⟨a, b⟩ => ?_⟩, fun hk => absurd hk (by simp), fun hk => ?_⟩
    · obtain rfl : k = 0 := by simpa using b
      exact absurd a (by show ¬ (0 : Int) ≤ -1; omega)
    · obtain rfl : k = 0 := by simpa using hk
      show (-1 : Int) ≤ -1 ∧ (-1 : Int) < _; omega
  | f + 1, n, h0, h1, h2, k => by
    by_cases hn : n < 0
    · obtain rfl : n = -1 := by omega
      have e : chnL s (f + 1) (-1) = [] := by rw [chnL, if_pos hn]
      rw [e]
      refine ⟨⟨fun hk => absurd hk (by simp), fun ⟨a, b⟩ => ?_⟩, fun hk => absurd hk (by simp), fun hk => ?_⟩
      · obtain rfl : k = 0 := by simpa using b
        exact absurd a (by show ¬ (0 : Int) ≤ -1; omega)
      · obtain rfl : k = 0 := by simpa using hk
        show (-1 : Int) ≤ -1 ∧ (-1 : Int) < _; omega
    · have e : chnL s (f + 1) n = upF s n.toNat :: chnL s f (upF s n.toNat).a := by rw [chnL, if_neg hn]
      have hu := up_lt h (n := n.toNat) (by omega)
      simp only [e]
      cases k with
      | zero =>
        refine ⟨⟨fun _ => ⟨by show 0 ≤ n; omega, Nat.zero_le _⟩, fun _ => by simp⟩, fun _ => rfl, fun _ => ?_⟩
        show -1 ≤ n ∧ n < _; omega
      | succ k =>
        obtain ⟨a, b, c⟩ := chnL_at h f (upF s n.toNat).a (by omega) (by omega) (by omega) k
        rw [curS_succ] at a b c
        refine ⟨⟨fun hk => ?_, fun ⟨p, q⟩ => ?_⟩, fun hk => ?_, fun hk => ?_⟩
        · have := a.1 (by simpa using hk)
          exact ⟨this.1, by simp; omega⟩
        · have := a.2 ⟨p, by simpa using q⟩
          simpa using this
        · exact b (by simpa using hk)
        · exact c (by simpa using hk)
theorem chn_at {s : Sc} (h : ScOk s) {n : Int} (h0 : -1 ≤ n) (h1 : n < s.notes.length) (k : Nat) (hk : k ≤ (chn s n).length) : (k < (chn s n).length ↔ 0 ≤ curS s n k) ∧ (∀ hk : k < (chn s n).length, (chn s n)[k] = upF s (curS s n k).toNat) ∧ -1 ≤ curS s n k ∧ curS s n k < s.notes.length := by
  obtain ⟨a, b, c⟩ := chnL_at h (n.toNat + 1) n h0 (by omega) h1 k
  exact ⟨⟨fun h => (a.1 h).1, fun h => a.2 ⟨h, hk⟩⟩, b, c hk⟩
end Go.Sx.Po
namespace Go.Proofs.YtdpegkkbhanjkaaDoor
open Go.RowKit Go.Sx Go.Sx.Sz Go.Sx.Sc Go.Sx.Po
attribute [local go_sem] Oper.semAt_some wide_fn wide_depth

def encS1 (p : St) : Array Value := #[.agg #[.int .i64 p.a, .int .i64 p.b, .int .i64 p.k]]
/-- What the iterator reads. -/
def StepN (tb g u q : Nat) (vs : Int) (vn vp vc vx : Value) (s : Sc) (G : Nat → V6) (W : World) : Prop :=
  W.heap[tb]? = some (.cells #[.pointer (some ⟨g, 0, none⟩)] 67 (0, 0)) ∧ TreeR W g u q vs vn vp vc s.notes.length (upF s) G vx

set_option maxRecDepth 100000 in
set_option maxHeartbeats 8000000 in
theorem steps_iter (tb g u q nb : Nat) (vs : Int) (vn vp vc vx : Value) (s : Sc) (G : Nat → V6) (hok : ScOk s) (n : Int) (h0 : -1 ≤ n) (h1 : n < s.notes.length) (hnt : nb ≠ tb) (hng : nb ≠ g) (hnu : nb ≠ u) (hnq : nb ≠ q) :
    IterT Tryd.prog 80 #[.pointer (some ⟨nb, 0, none⟩), .pointer (some ⟨tb, 0, none⟩)] encS1 (chn s n) (StepN tb g u q vs vn vp vc vx s G) nb (fun W => W.heap[nb]? = some (.cells #[.int .i64 n] 3 (0, 0))) := by
  intro l J Jx W hJ hJx hN hnbW hY hj0 hOwn
  have HC := Lib.hid fun k hk => chn_at hok h0 h1 k hk
  refine callsIn_of_wp Tryd.func80 rfl trivial ?_ rfl
  simp only [Tryd.ntmps80, List.size_toArray, List.length_cons, List.length_nil, Nat.reduceAdd, Nat.reduceSub, Array.replicate_succ, Array.replicate_zero, List.push_toArray, List.append_toArray, List.nil_append, List.cons_append]
  gi_wp2
  gi_loopw [] (fun wr => ∃ k : Nat, k ≤ (chn s n).length ∧ wr.heap[nb]? = some (.cells #[.int .i64 (curS s n k)] 3 (0, 0)) ∧ J k wr) (fun wr => match wr.cell? ⟨nb, 0, none⟩ with | some v => (intOf v + 1).toNat | none => 0)
  case atStart => exact ⟨0, Nat.zero_le _, hOwn, hj0⟩
  case round =>
    obtain ⟨k, hk, hb, hJk⟩ := hrel
    obtain ⟨hcl, hcg, hc1, hc2⟩ := HC.out k hk
    have HNX := Lib.hid (HC.out (k + 1))
    obtain ⟨ht, T⟩ := hN _ _ hJk
    obtain ⟨wo, rfl⟩ : ∃ z : World, z = wr := ⟨_, rfl⟩
    obtain ⟨c, hc⟩ : ∃ c, curS s n k = c := ⟨_, rfl⟩
    have hcs : curS s n (k + 1) = (upF s c.toNat).a := by rw [← hc]; rfl
    rw [hc] at hb hcl hcg hc1 hc2
    have cn0 := block_cell hb 0 _ rfl
    have f0 := ext_cells cn0
    by_cases hge : 0 ≤ c
    · obtain ⟨m, rfl⟩ : ∃ m : Nat, c = (m : Int) := ⟨c.toNat, by omega⟩
      have hm : m < s.notes.length := by omega
      have hklt := hcl.2 hge
      have hck := hcg hklt
      rw [Int.toNat_natCast] at hck hcs
      obtain ⟨u0, u1, u2⟩ := T.upC m hm
      have hup := up_lt hok hm
      obtain ⟨p, hp⟩ : ∃ p, upF s m = p := ⟨_, rfl⟩
      rw [hp] at u0 u1 u2 hck hcs hup
      have t1 : decide ((0 : Int) ≤ (m : Int)) = true := decide_eq_true (by omega)
      have f1 := ext_cells (block_cell ht 0 _ rfl); have f2 := ext_cells T.c4
      have g0 := ext_cells u0; have g1 := ext_cells u1; have g2 := ext_cells u2
      have j1 : (0 : Int) ≤ (m : Int) := by omega
      have j2 : (m : Int) < (s.notes.length : Int) := by omega
      have HYY := Lib.hid fun w' (x : Ext wo w') => hY k w' hklt (hJ k _ _ hJk (x.kb _))
      have HBN := Lib.hid fun w' (x : Ext wo w') => block_ext x hb
      have HM0 := Lib.hid cn0; have HPP := Lib.hid hp
      have HCS := Lib.hid hcs; have HCK := Lib.hid hck; have HUP := Lib.hid hup
      clear hb cn0 hJk ht T u0 u1 u2 hp hcs hck hup hcl hcg hc hge
      gi_wp2_with fail
      refine wpIn_region_ordT (free_wide _) [(0,true), (1,true), (2,true), (3,true), (4,true), (5,true), (6,true), (7,true), (8,true), (9,true), (10,true)] 11 Ext (Ext wo) wide (by kernel_rfl) (stable_ext _) (Ext.drawn _ _) ?_
      iterate 11 (first | (apply ordT_no rfl; rfl; (simp only [List.getElem_toArray, List.getElem_cons_succ, List.getElem_cons_zero, Act.put, List.setIfInBounds_toArray, List.set_cons_succ, List.set_cons_zero]; rfl)) | (apply ordT_yes rfl; rfl; (intro w' hw'; unfold opR; go_simp; exact ⟨Ext.refl _, rfl⟩); (simp only [List.getElem_toArray, List.getElem_cons_succ, List.getElem_cons_zero, Act.put, List.setIfInBounds_toArray, List.set_cons_succ, List.set_cons_zero]; rfl)))
      refine ordT_nil rfl ?_
      intro w9 x9
      obtain ⟨fn, tmps, assign, body, hy, hR⟩ := HYY.out w9 x9
      rw [HCK.out] at hy
      simp only [encS1] at hy
      have hb9 := HBN.out w9 x9
      have HB9 := Lib.hid hb9
      clear f0 f1 f2 g0 g1 g2 x9 hb9
      gi_wp2
      refine hR.mono ?_
      rintro e W3 ⟨hks, (⟨rfl, hJ3⟩ | ⟨rfl, hJx3⟩)⟩
      · have hb3 : W3.heap[nb]? = some (.cells #[.int .i64 m] 3 (0, 0)) := Eq.trans (show W3.heap[nb]? = w9.heap[nb]? from hks) HB9.out
        obtain ⟨ht, T⟩ := hN _ _ hJ3
        obtain ⟨u0, u1, u2⟩ := T.upC m hm
        rw [HPP.out] at u0 u1 u2
        have f0 := ext_cells (block_cell hb3 0 _ rfl)
        have f1 := ext_cells (block_cell ht 0 _ rfl); have f2 := ext_cells T.c4; have g0 := ext_cells u0
        have HJ3 := Lib.hid hJ3; have HB3 := Lib.hid hb3
        clear hks hJ3 hb3 ht T u0 u1 u2
        gi_wp2_with fail
        refine wpIn_region_ordT (free_wide _) [(0,true), (1,true), (2,true), (3,true), (4,true), (5,true), (6,true), (7,true)] 8 Ext (Ext W3) wide (by kernel_rfl) (stable_ext _) (Ext.drawn _ _) ?_
        iterate 8 (first | (apply ordT_no rfl; rfl; (simp only [List.getElem_toArray, List.getElem_cons_succ, List.getElem_cons_zero, Act.put, List.setIfInBounds_toArray, List.set_cons_succ, List.set_cons_zero]; rfl)) | (apply ordT_yes rfl; rfl; (intro w' hw'; unfold opR; go_simp; exact ⟨Ext.refl _, rfl⟩); (simp only [List.getElem_toArray, List.getElem_cons_succ, List.getElem_cons_zero, Act.put, List.setIfInBounds_toArray, List.set_cons_succ, List.set_cons_zero]; rfl)))
        refine ordT_nil (l := [_]) rfl ?_
        intro w10 x10
        have hb10 := block_ext x10 HB3.out
        have hc10 := block_cell hb10 0 _ rfl
        have hf10 := block_free hb10 0
        have hbn : (w10.setCell ⟨nb, 0, none⟩ (.int .i64 p.a)).heap[nb]? = some (.cells #[.int .i64 (curS s n (k + 1))] 3 (0, 0)) := by rw [HCS.out]; exact block_set hb10 0 (.int .i64 p.a)
        have hM1 := block_cell hbn 0 _ rfl
        have hJn := hJ (k + 1) _ _ HJ3.out ((x10.kb _).trans (kb_set w10 nb 0 (.int .i64 p.a)))
        rw [HCS.out] at hM1
        have FIN := Lib.hid (And.intro hbn (And.intro hJn hM1))
        clear f0 f1 f2 g0 hb10 hbn hM1 hJn x10
        gi_wp2
        go_roundw
        case rel => exact ⟨k + 1, by omega, FIN.out.1, FIN.out.2.1⟩
        case measure => simp [FIN.out.2.2, HM0.out, intOf]; have := HUP.out; omega
      · gi_wp2
        refine bodyPost_end (results_none rfl _ _ _) rfl ?_
        exact ⟨⟨_, rfl⟩, .inr hJx3⟩
    · have hk2 : k = (chn s n).length := by
        rcases Nat.lt_or_ge k (chn s n).length with h | h
        · exact absurd (hcl.1 h) hge
        · omega
      subst hk2
      have t1 : decide ((0 : Int) ≤ c) = false := decide_eq_false hge
      have HJK := Lib.hid hJk
      clear hb cn0 hJk ht T hcl hcg hcs hc hge
      gi_wp2_with fail
      refine wpIn_region_ordT (free_wide _) [(0,true), (1,true), (2,true), (3,true), (4,true), (5,true), (6,true), (7,true), (8,true), (9,true), (10,true)] 11 Ext (Ext wo) wide (by kernel_rfl) (stable_ext _) (Ext.drawn _ _) ?_
      iterate 11 (first | (apply ordT_no rfl; rfl; (simp only [List.getElem_toArray, List.getElem_cons_succ, List.getElem_cons_zero, Act.put, List.setIfInBounds_toArray, List.set_cons_succ, List.set_cons_zero]; rfl)) | (apply ordT_yes rfl; rfl; (intro w' hw'; unfold opR; go_simp; exact ⟨Ext.refl _, rfl⟩); (simp only [List.getElem_toArray, List.getElem_cons_succ, List.getElem_cons_zero, Act.put, List.setIfInBounds_toArray, List.set_cons_succ, List.set_cons_zero]; rfl)))
      refine ordT_nil rfl ?_
      intro w9 x9
      have hJn := hJ _ _ _ HJK.out (x9.kb _)
      clear f0 x9
      gi_wp2
      refine bodyPost_end (results_none rfl _ _ _) rfl ?_
      exact ⟨⟨_, rfl⟩, .inl hJn⟩

theorem steps_walk (g : Nat) (n : Int) (w : World) :
    Calls Tryd.prog 58 #[.pointer (some ⟨g, 0, none⟩), .int .i64 n] w fun e w' => e = .returned (.func (.func 80) #[] #[.pointer (some ⟨w.heap.size + 1, 0, none⟩), .pointer (some ⟨w.heap.size, 0, none⟩)]) ∧ (w.alloc (.cells #[.pointer (some ⟨g, 0, none⟩)] 67)).alloc (.cells #[.int .i64 n] 3) = w' := by
  go_enter Tryd.func58, Tryd.ntmps58
  go_wp2
  go_ret
  exact ⟨rfl, rfl⟩
end Go.Proofs.YtdpegkkbhanjkaaDoor
