/-
  Walks: what is heard at an entry (an iterator that ranges over an iterator).
-/
import Derived.Test.YtigigcbondhmmaaDoorSgB
import Derived.Test.YtigigcbondhmmaaDoorLibA
set_option linter.unusedVariables false
namespace Go.Proofs.YtigigcbondhmmaaDoor
open Go.RowKit Go.Sx Go.Sx.Sz Go.Sx.Sc Go.Sx.Sg
attribute [local go_sem] Oper.semAt_some wide_fn wide_depth

def encZI (i : Int) : Array Value := #[.int .i64 i]

set_option maxRecDepth 100000 in
set_option maxHeartbeats 4000000 in
theorem hrd_iter (b0 b1 : Nat) (v0 vn vp vc vx : Value) (hx : ∃ a n c, vx = .slice a n c) (s : Sc) (hok : ScOk s) (n : Nat) (hn : n < s.notes.length) (Need : World → Prop)
    (hN : ∀ W, Need W → W.heap[b0]? = some (.cells #[v0, vn, vp, vc, vx] 58 (0, 0)) ∧ W.heap[b1]? = some (.cells #[.int .i64 n] 3 (0, 0)) ∧ Sl W 10 encN vn s.notes) :
    IterN Tryd.prog 51 #[.pointer (some ⟨b0, 0, none⟩), .pointer (some ⟨b1, 0, none⟩)] encZI (heardL s n) Need := by
  intro y J Jx w hJ hJx hNe hyl hY h0
  obtain ⟨d0, d1, S0⟩ := hN _ (hNe _ _ h0)
  obtain ⟨an, cn, rfl, hl1, hl2, hln⟩ := S0.len
  have X0 : Ext w ((w.alloc (.cells #[.func (.yield y) #[] #[]] 59)).alloc (.cells #[.bool true] 4)) := (by repeat (first | with_reducible exact Ext.refl _ | with_reducible assumption | with_reducible apply Ext.alloc | with_reducible apply Ext.drew | (with_reducible refine Ext.setCell ?_ (by (try simp) <;> omega) _)))
  have b0_0 := block_alloc (block_new w (.cells #[.func (.yield y) #[] #[]] 59)) (.cells #[.bool true] 4)
  have b0_1 := block_at (w := (w.alloc (.cells #[.func (.yield y) #[] #[]] 59))) (n := w.heap.size + 1) (by simp) (.cells #[.bool true] 4)
  obtain ⟨W0, hW0⟩ : ∃ W, ((w.alloc (.cells #[.func (.yield y) #[] #[]] 59)).alloc (.cells #[.bool true] 4)) = W := ⟨_, rfl⟩
  obtain ⟨B0, hB0⟩ : ∃ B, w.heap.size = B := ⟨_, rfl⟩
  rw [hW0] at X0 b0_0 b0_1
  rw [hB0] at b0_0 b0_1
  have HZ0 : Hid (w.heap.size ≤ B0) := Lib.hid (by omega)
  have HW0 := Lib.hid hW0; have HB0 := Lib.hid hB0
  clear hW0 hB0
  have q0 := block_ext X0 d0; have q1 := block_ext X0 d1
  have c0 := block_cell q0 0 _ rfl; have c1 := block_cell q0 1 _ rfl; have c2 := block_cell q0 2 _ rfl; have c3 := block_cell q0 3 _ rfl; have c4 := block_cell q0 4 _ rfl; have c5 := block_cell q1 0 _ rfl
  clear q0 q1
  refine callsIn_of_wp_marks Tryd.func51 rfl trivial ?_ rfl
  simp only [Tryd.ntmps51, List.size_toArray, List.length_cons, List.length_nil, Nat.reduceAdd, Nat.reduceSub, Array.replicate_succ, Array.replicate_zero, List.push_toArray, List.append_toArray, List.nil_append, List.cons_append]
  refine wpIn_wide.2 ?_
  rw [← HW0.out] at c0 c1 c2 c3 c4 c5
  go_wp2_with fail
  obtain ⟨xa, xn, xc, rfl⟩ := hx
  refine (sounding_walk _ _ _ _ _ ⟨_, _, _, rfl⟩ ⟨_, _, _, rfl⟩ _ _).mono ?_
  rintro e w3 ⟨rfl, rfl⟩
  clear c0 c1 c2 c3 c4 c5 HW0 HB0 HZ0 b0_0 b0_1 X0
  have X3 : Ext w ((((w.alloc (.cells #[.func (.yield y) #[] #[]] 59)).alloc (.cells #[.bool true] 4)).alloc (.cells #[v0, .slice an s.notes.length cn, vp, vc, .slice xa xn xc] 58)).alloc (.cells #[.int .i64 n] 3)) := (by repeat (first | with_reducible exact Ext.refl _ | with_reducible assumption | with_reducible apply Ext.alloc | with_reducible apply Ext.drew | (with_reducible refine Ext.setCell ?_ (by (try simp) <;> omega) _)))
  have b3_0 := block_alloc (block_alloc (block_alloc (block_new w (.cells #[.func (.yield y) #[] #[]] 59)) (.cells #[.bool true] 4)) (.cells #[v0, .slice an s.notes.length cn, vp, vc, .slice xa xn xc] 58)) (.cells #[.int .i64 n] 3)
  have b3_1 := block_alloc (block_alloc (block_at (w := (w.alloc (.cells #[.func (.yield y) #[] #[]] 59))) (n := w.heap.size + 1) (by simp) (.cells #[.bool true] 4)) (.cells #[v0, .slice an s.notes.length cn, vp, vc, .slice xa xn xc] 58)) (.cells #[.int .i64 n] 3)
  have b3_2 := block_alloc (block_at (w := ((w.alloc (.cells #[.func (.yield y) #[] #[]] 59)).alloc (.cells #[.bool true] 4))) (n := w.heap.size + 1 + 1) (by simp) (.cells #[v0, .slice an s.notes.length cn, vp, vc, .slice xa xn xc] 58)) (.cells #[.int .i64 n] 3)
  have b3_3 := block_at (w := (((w.alloc (.cells #[.func (.yield y) #[] #[]] 59)).alloc (.cells #[.bool true] 4)).alloc (.cells #[v0, .slice an s.notes.length cn, vp, vc, .slice xa xn xc] 58))) (n := w.heap.size + 1 + 1 + 1) (by simp) (.cells #[.int .i64 n] 3)
  obtain ⟨W3, hW3⟩ : ∃ W, ((((w.alloc (.cells #[.func (.yield y) #[] #[]] 59)).alloc (.cells #[.bool true] 4)).alloc (.cells #[v0, .slice an s.notes.length cn, vp, vc, .slice xa xn xc] 58)).alloc (.cells #[.int .i64 n] 3)) = W := ⟨_, rfl⟩
  obtain ⟨B3, hB3⟩ : ∃ B, w.heap.size = B := ⟨_, rfl⟩
  rw [hW3] at X3 b3_0 b3_1 b3_2 b3_3
  rw [hB3] at b3_0 b3_1 b3_2 b3_3
  have HZ3 : Hid (w.heap.size ≤ B3) := Lib.hid (by omega)
  have HW3 := Lib.hid hW3; have HB3 := Lib.hid hB3
  clear hW3 hB3
  simp only [World.size_alloc]
  rw [HW3.out, HB3.out]
  have hB3 : w.heap.size = B3 := HB3.out
  have hz3 : W3.heap.size = B3 + 4 := by rw [← HW3.out]; simp [hB3]
  have HI0 := Lib.hid (hJ 0 _ _ h0 X3)
  clear HW3 HB3
  go_wp2_with fail
  refine (wpIn_wide (n := 0)).1 ?_
  refine wpIn_rangeN (gf := 62) (lb := #[.pointer (some ⟨B3 + 1 + 1, 0, none⟩), .pointer (some ⟨B3 + 1 + 1 + 1, 0, none⟩)]) rfl (enters_of Tryd.func62 (by kernel_rfl) rfl)
    (snd_iter (B3 + 1 + 1) (B3 + 1 + 1 + 1) (.slice an s.notes.length cn) s hok n hn (fun W => W.heap[B3 + 1 + 1]? = some (.cells #[v0, .slice an s.notes.length cn, vp, vc, .slice xa xn xc] 58 (0, 0)) ∧ W.heap[B3 + 1 + 1 + 1]? = some (.cells #[.int .i64 n] 3 (0, 0)) ∧ Sl W 10 encN (.slice an s.notes.length cn) s.notes) (fun W ⟨h1, h2, h3⟩ => ⟨block_cell h1 1 _ rfl, block_cell h2 0 _ rfl, h3⟩)).n (fun _ => rfl)
    (fun k W => J (hrdC s n k) W ∧ W.heap[B3]? = some (.cells #[.func (.yield y) #[] #[]] 59 (0, 0)) ∧ W.heap[B3 + 1]? = some (.cells #[.bool (decide (hrdC s n k = 0))] 4 (0, 0)) ∧ W.heap[B3 + 1 + 1]? = some (.cells #[v0, .slice an s.notes.length cn, vp, vc, .slice xa xn xc] 58 (0, 0)) ∧ W.heap[B3 + 1 + 1 + 1]? = some (.cells #[.int .i64 n] 3 (0, 0)))
    (fun c W => c = .ret ∧ Jx W)
    (fun k => ((hJ _).mono (by omega)).and ((Low.block (by omega)).and ((Low.block (by omega)).and ((Low.block (by omega)).and (Low.block (by omega))))))
    (fun c => (Low.pure _).and (hJx.mono (by omega)))
    (fun k W ⟨h1, _, _, h4, h5⟩ => ⟨h4, h5, (hN _ (hNe _ _ h1)).2.2⟩)
    ⟨HI0.out, b3_0, b3_1, b3_2, b3_3⟩ ?round ?done ?stop
  case stop =>
    rintro D c W hD ⟨rfl, hjx⟩ hdef
    gi_wp2
    exact bodyPostM_ret rfl hdef (fun W' _ => results_none rfl _ _ _) (fun W' hs => ⟨⟨_, rfl⟩, .inr (hJx _ _ hjx (hs.below (by omega)))⟩)
  case done =>
    rintro D W hD ⟨hj, e0, e1, e2, e3⟩ hdef
    have q0 := block_cell e0 0 (.func (.yield y) #[] #[]) rfl
    have q1 := block_cell e1 0 (.bool (decide (hrdC s n (sndL s n).length = 0))) rfl
    rw [hrdC_all] at hj q1
    gi_wp2
    refine (wpIn_wide (n := 0)).1 ?_
    have hzw := (Array.getElem?_eq_some_iff.1 e0).1
    by_cases hz : (othL s n).length = 0
    · have ho : othL s n = [] := List.eq_nil_of_length_eq_zero hz
      have hh := heard_alone ho
      have hlen : (heardL s n).length = 1 := by rw [hh]; rfl
      rw [decide_eq_true hz] at q1
      rw [hz] at hj
      obtain ⟨fn, tmps, assign, body, hy, hR⟩ := hY 0 W (by omega) hj (by omega)
      have hge : (heardL s n)[0]'(by omega) = -1 := by simp only [hh]; rfl
      rw [hge] at hy
      simp only [encZI] at hy
      have HL := Lib.hid hlen
      clear hge hh hlen ho hz e0 e1 e2 e3
      gi_wp2
      refine hR.mono ?_
      rintro e W4 ⟨ku, ⟨rfl, hJ4⟩ | ⟨rfl, hJx4⟩⟩
      · have hd4 := ku.at (by omega) hdef
        gi_wp2
        exact bodyPostM_ret rfl hd4 (fun W' _ => results_none rfl _ _ _) (fun W' hs => ⟨⟨_, rfl⟩, .inl (by rw [HL.out]; exact hJ _ _ _ hJ4 (hs.below (by omega)))⟩)
      · have hd4 := ku.at (by omega) hdef
        gi_wp2
        exact bodyPostM_ret rfl hd4 (fun W' _ => results_none rfl _ _ _) (fun W' hs => ⟨⟨_, rfl⟩, .inr (hJx _ _ hJx4 (hs.below (by omega)))⟩)
    · have hlen : (heardL s n).length = (othL s n).length := by unfold heardL; rw [if_neg (fun h => hz (by rw [h]; rfl)), List.length_map]
      rw [decide_eq_false hz] at q1
      have HL := Lib.hid hlen
      clear hlen hz e0 e1 e2 e3
      gi_wp2
      exact bodyPostM_ret rfl hdef (fun W' _ => results_none rfl _ _ _) (fun W' hs => ⟨⟨_, rfl⟩, .inl (by rw [HL.out]; exact hJ _ _ _ hj (hs.below (by omega)))⟩)
  case round =>
    rintro lr k W hk ⟨hj, e0, e1, e2, e3⟩ hle hlt'
    have hsuc := hrdC_succ hk
    have hget := hrdC_get (s := s) (n := n) hk
    obtain ⟨i, hi⟩ : ∃ i, (sndL s n)[k] = i := ⟨_, rfl⟩
    rw [hi] at hsuc hget ⊢
    obtain ⟨x, hx⟩ : ∃ x, s.N i = x := ⟨_, rfl⟩
    simp only [encIN]
    rw [hx] at hsuc hget ⊢
    simp only [ntC]
    gi_wp2
    refine ⟨KeepsUp.ext (Ext.alloc' _ _), fun W2 hs2 => ?_⟩
    have ea := Ext.alloc' W (.cells (ntC x) 43)
    unfold ntC at ea
    have f0 := hs2.cells (block_ext ea e0); have f1 := hs2.cells (block_ext ea e1); have f2 := hs2.cells (block_ext ea e2); have f3 := hs2.cells (block_ext ea e3)
    have fx := hs2.cells (block_new W (.cells (ntC x) 43))
    have hbW : Below w.heap.size W W2 := (ea.below (by omega)).trans (hs2.below (by omega))
    have hj2 := hJ _ _ _ hj hbW
    have hz2 : W.heap.size < W2.heap.size := by have := hs2.size; simp at this; omega
    obtain ⟨g0, g1, S2⟩ := hN _ (hNe _ _ hj2)
    obtain ⟨b, o, e', A⟩ := Sl.nt S2 n hn
    subst e'
    rw [← Sc.N_eq hn] at A
    have j1 : (0 : Int) ≤ (n : Int) := by omega
    have j2 : (n : Int) < (s.notes.length : Int) := by omega
    have k0 := ext_cells (block_cell fx 0 (.int .i64 x.v) rfl)
    have k1 := ext_cells (block_cell g0 1 _ rfl)
    have k2 := ext_cells (block_cell g1 0 _ rfl)
    have k3 := ext_cells A.c0
    have FF := Lib.hid (And.intro f0 (And.intro f1 (And.intro f2 f3)))
    have JJ := Lib.hid hj2
    obtain ⟨vv, hvv⟩ : ∃ v, (s.N n).v = v := ⟨_, rfl⟩
    rw [hvv] at hsuc hget k3
    clear f0 f1 f2 f3 fx g0 g1 S2 A ea hj e0 e1 e2 e3 hvv
    gi_wp2_with fail
    refine wpIn_region_ordT (free_round _ _) [(0,true), (1,true), (2,true), (3,true), (4,true), (5,true), (6,true), (7,true), (8,true), (9,true)] 10 Ext (Ext W2) wide (by kernel_rfl) (stable_ext _) (Ext.drawn _ _) ?_
    iterate 10 (first | (apply ordT_no rfl; rfl; (simp only [List.getElem_toArray, List.getElem_cons_succ, List.getElem_cons_zero, Act.put, List.setIfInBounds_toArray, List.set_cons_succ, List.set_cons_zero]; rfl)) | (apply ordT_yes rfl; rfl; (intro w' hw'; unfold opR; go_simp; exact ⟨Ext.refl _, rfl⟩); (simp only [List.getElem_toArray, List.getElem_cons_succ, List.getElem_cons_zero, Act.put, List.setIfInBounds_toArray, List.set_cons_succ, List.set_cons_zero]; rfl)))
    refine ordT_nil rfl ?_
    intro w9 x9
    clear k0 k1 k2 k3
    have h0' := block_ext x9 FF.out.1; have h1' := block_ext x9 FF.out.2.1; have h2' := block_ext x9 FF.out.2.2.1; have h3' := block_ext x9 FF.out.2.2.2
    have hz9 := x9.size
    have hJ9 := hJ _ _ _ JJ.out (x9.below (B := w.heap.size) (by omega))
    by_cases hv : x.v = vv
    · rw [if_neg (fun h => h hv), Nat.add_zero] at hsuc
      have HS := Lib.hid hsuc
      clear hget hsuc
      gi_wp2
      exact ⟨KeepsUp.ext x9, by rw [HS.out]; exact hJ9, h0', by rw [HS.out]; exact h1', h2', h3'⟩
    · rw [if_pos hv] at hsuc
      obtain ⟨hlt2, hge⟩ := hget hv
      have HS := Lib.hid hsuc
      have p0 := block_ne h0' (g := B3 + 1) 0 (.bool false) (by omega)
      have p1 := block_set h1' 0 (.bool false)
      have p2 := block_ne h2' (g := B3 + 1) 0 (.bool false) (by omega)
      have p3 := block_ne h3' (g := B3 + 1) 0 (.bool false) (by omega)
      have hfr := block_free h1' 0
      have hyc := block_cell p0 0 (.func (.yield y) #[] #[]) rfl
      have hyd := block_cell h0' 0 (.func (.yield y) #[] #[]) rfl
      have hye := block_cell h1' 0 (.bool (decide (hrdC s n k = 0))) rfl
      have hb10 : Below w.heap.size w9 (w9.setCell ⟨B3 + 1, 0, none⟩ (.bool false)) := Below.setCell (Below.refl _ _) (by show w.heap.size ≤ B3 + 1; omega) _
      obtain ⟨fn, tmps, assign, body, hy, hR⟩ := hY _ (w9.setCell ⟨B3 + 1, 0, none⟩ (.bool false)) hlt2 (hJ _ _ _ hJ9 hb10) (by simp; omega)
      rw [hge] at hy
      simp only [encZI] at hy
      have PP := Lib.hid (And.intro p0 (And.intro p1 (And.intro p2 p3)))
      have KK := Lib.hid ((KeepsUp.ext x9 (B := W3.heap.size)).trans (KeepsUp.setCell w9 (p := ⟨B3 + 1, 0, none⟩) (by show B3 + 1 < W3.heap.size; omega) (.bool false)))
      clear hget hsuc hge h0' h1' h2' h3' p0 p1 p2 p3 hJ9 hb10
      gi_wp2
      refine RoundIn.mono (show RoundIn (Fence.wide.inRound lr) 0 _ _ _ _ _ _ _ _ from hR) ?_
      rintro e W4 ⟨ku, ⟨rfl, hJ4⟩ | ⟨rfl, hJx4⟩⟩
      · have KU := Lib.hid (KK.out.trans (ku.mono (by omega)))
        have r0 := ku.at (by omega) PP.out.1; have r1 := ku.at (by omega) PP.out.2.1; have r2 := ku.at (by omega) PP.out.2.2.1; have r3 := ku.at (by omega) PP.out.2.2.2
        have RR := Lib.hid (And.intro r0 (And.intro r1 (And.intro r2 r3)))
        clear r0 r1 r2 r3 ku
        gi_wp2
        refine ⟨KU.out, by rw [HS.out]; exact hJ4, RR.out.1, ?_, RR.out.2.2.1, RR.out.2.2.2⟩
        have := RR.out.2.1
        rw [HS.out, decide_eq_false (by omega)]
        exact this
      · have KU := Lib.hid (KK.out.trans (ku.mono (by omega)))
        clear ku
        gi_wp2
        exact ⟨KU.out, rfl, hJx4⟩
end Go.Proofs.YtigigcbondhmmaaDoor
