/-
  Libraries of these proofs, laid as one text: PlA, PlI, PlR, PlK, PlE, PlC, PlD, PlH.
-/
import Derived.Test.YtgfaiihekibcbaaGreatDoorLibD
import Derived.Test.YtgfaiihekibcbaaGreatDoorLibP
import Derived.Test.YtgfaiihekibcbaaGreatDoorLibC
import Derived.Test.YtgfaiihekibcbaaGreatDoorLibB
import Derived.Deep.DeepCutAuto
import Derived.WideKeyPair
import Derived.DeepKeys4
import Derived.Test.YtgfaiihekibcbaaGreatDoorLibM
/-
  Walks of potential: the tree of parent steps (what lies where), plant's first region.
-/
set_option linter.unusedVariables false
namespace Go.Proofs.YtgfaiihekibcbaaGreatDoor
open Go.RowKit Go.Sx Go.Sx.Sz Go.Sx.Sc Go.Sx.Po

def encSt (p : St) : List Value := [.int .i64 p.a, .int .i64 p.b, .int .i64 p.k]
def TrC (vs : Int) (vn vp vc : Value) (n u q : Nat) (vx : Value) : Array Value := #[.int .i64 vs, vn, vp, vc, .slice (some ⟨u, 0, none⟩) n n, .slice (some ⟨q, 0, none⟩) n n, vx]
/-- The tree in block g: its steps in block u, its products in block q. -/
structure TreeR (w : World) (g u q : Nat) (vs : Int) (vn vp vc : Value) (n : Nat) (F : Nat → St) (G : Nat → V6) (vx : Value) : Prop where
  tb : w.heap[g]? = some (.cells (TrC vs vn vp vc n u q vx) 61 (0, 0))
  up : Bk w u 39 encSt (rgL F n)
  pr : Bk w q 32 V6.list (rgL G n)
section
variable {w w' : World} {g u q : Nat} {vs : Int} {vn vp vc vx : Value} {n : Nat} {F : Nat → St} {G : Nat → V6}
theorem TreeR.ext (h : TreeR w g u q vs vn vp vc n F G vx) (x : Ext w w') : TreeR w' g u q vs vn vp vc n F G vx := ⟨block_ext x h.tb, h.up.ext x, h.pr.ext x⟩
theorem TreeR.ne (h : TreeR w g u q vs vn vp vc n F G vx) : u ≠ g ∧ q ≠ g ∧ u ≠ q :=
  ⟨h.up.ne_block h.tb (by decide), h.pr.ne_block h.tb (by decide), h.up.ne_of h.pr (by decide)⟩
theorem TreeR.kb (h : TreeR w g u q vs vn vp vc n F G vx) {r : Nat} (k : Kb (some r) w w') (h1 : g ≠ r) (h2 : u ≠ r) (h3 : q ≠ r) : TreeR w' g u q vs vn vp vc n F G vx := ⟨k.at h.tb h1, h.up.kb k h2, h.pr.kb k h3⟩
theorem TreeR.kept (h : TreeR w g u q vs vn vp vc n F G vx) (h1 : w'.heap[g]? = w.heap[g]?) (h2 : w'.heap[u]? = w.heap[u]?) (h3 : w'.heap[q]? = w.heap[q]?) : TreeR w' g u q vs vn vp vc n F G vx := by
  obtain ⟨a, ⟨cs, b, c⟩, ⟨ds, d, e⟩⟩ := h
  exact ⟨h1.trans a, ⟨cs, h2.trans b, c⟩, ⟨ds, h3.trans d, e⟩⟩
theorem TreeR.c4 (h : TreeR w g u q vs vn vp vc n F G vx) : w.cell? ⟨g, 4, none⟩ = some (.slice (some ⟨u, 0, none⟩) n n) := block_cell h.tb 4 _ rfl
theorem TreeR.c5 (h : TreeR w g u q vs vn vp vc n F G vx) : w.cell? ⟨g, 5, none⟩ = some (.slice (some ⟨q, 0, none⟩) n n) := block_cell h.tb 5 _ rfl
theorem TreeR.c6 (h : TreeR w g u q vs vn vp vc n F G vx) : w.cell? ⟨g, 6, none⟩ = some vx := block_cell h.tb 6 _ rfl
theorem TreeR.low {B : Nat} (h1 : g < B) (h2 : u < B) (h3 : q < B) : Low B (fun W => TreeR W g u q vs vn vp vc n F G vx) := fun _ _ h x => h.kept (x.block g h1) (x.block u h2) (x.block q h3)
theorem TreeR.gne (h : TreeR w g u q vs vn vp vc n F G vx) {t : Nat} {cs : Array Value} {e : TypeId} {z : Nat × Nat} (hb : w.heap[t]? = some (.cells cs e z)) (h1 : 61 ≠ e) (h2 : 39 ≠ e) (h3 : 32 ≠ e) : g ≠ t ∧ u ≠ t ∧ q ≠ t := by
  refine ⟨fun e' => ?_, h.up.ne_block hb h2, h.pr.ne_block hb h3⟩
  have h5 := h.tb
  rw [e', hb] at h5
  cases h5
  exact h1 rfl
/-- A step is stored. -/
theorem TreeR.putUp (h : TreeR w g u q vs vn vp vc n F G vx) (k : Nat) (hk : k < n) (p : St) : TreeR (w.setCells u (k * 3) (encSt p)) g u q vs vn vp vc n (fun i => if i = k then p else F i) G vx := by
  obtain ⟨n1, n2, n3⟩ := h.ne
  have kb := kb_sets u (encSt p) w (k * 3)
  refine ⟨kb.at h.tb (Ne.symm n1), ?_, h.pr.kb kb (Ne.symm n3)⟩
  have := h.up.put (sz := 3) (fun _ _ => rfl) p rfl k (by rw [rgL_len]; exact hk)
  rwa [rgL_set] at this
/-- A product is stored. -/
theorem TreeR.putPr (h : TreeR w g u q vs vn vp vc n F G vx) (k : Nat) (hk : k < n) (x : V6) : TreeR (w.setCells q (k * 6) (V6.list x)) g u q vs vn vp vc n F (fun i => if i = k then x else G i) vx := by
  obtain ⟨n1, n2, n3⟩ := h.ne
  have kb := kb_sets q (V6.list x) w (k * 6)
  refine ⟨kb.at h.tb (Ne.symm n2), h.up.kb kb n3, ?_⟩
  have := h.pr.put (sz := 6) (fun _ _ => rfl) x rfl k (by rw [rgL_len]; exact hk)
  rwa [rgL_set] at this
theorem TreeR.upEx (h : TreeR w g u q vs vn vp vc n F G vx) (k : Nat) (hk : k < n) : (∃ y0 y1 y2, w.cell? ⟨u, k * 3, none⟩ = some y0 ∧ w.cell? ⟨u, k * 3 + 1, none⟩ = some y1 ∧ w.cell? ⟨u, k * 3 + 2, none⟩ = some y2) ∧ ∀ j, w.frozen? ⟨u, j, none⟩ = false := by
  have hk' : k < (rgL F n).length := by rw [rgL_len]; exact hk
  obtain ⟨y0, e0⟩ := h.up.ex0 (sz := 3) (fun _ _ => rfl) k hk' (by omega)
  obtain ⟨y1, e1⟩ := h.up.ex (sz := 3) (fun _ _ => rfl) k 1 hk' (by omega)
  obtain ⟨y2, e2⟩ := h.up.ex (sz := 3) (fun _ _ => rfl) k 2 hk' (by omega)
  exact ⟨⟨y0, y1, y2, e0, e1, e2⟩, h.up.free⟩
theorem TreeR.upC (h : TreeR w g u q vs vn vp vc n F G vx) (k : Nat) (hk : k < n) : w.cell? ⟨u, k * 3, none⟩ = some (.int .i64 (F k).a) ∧ w.cell? ⟨u, k * 3 + 1, none⟩ = some (.int .i64 (F k).b) ∧ w.cell? ⟨u, k * 3 + 2, none⟩ = some (.int .i64 (F k).k) := by
  have hk' : k < (rgL F n).length := by rw [rgL_len]; exact hk
  have e0 := h.up.cell (sz := 3) (fun _ _ => rfl) k 0 hk' (by omega)
  have e1 := h.up.cell (sz := 3) (fun _ _ => rfl) k 1 hk' (by omega)
  have e2 := h.up.cell (sz := 3) (fun _ _ => rfl) k 2 hk' (by omega)
  rw [rgL_get] at e0 e1 e2
  exact ⟨e0, e1, e2⟩
theorem TreeR.prC (h : TreeR w g u q vs vn vp vc n F G vx) (k : Nat) (hk : k < n) : (w.cell? ⟨q, k * 6, none⟩ = some (.int .i64 (G k).a) ∧ w.cell? ⟨q, k * 6 + 1, none⟩ = some (.int .i64 (G k).b) ∧ w.cell? ⟨q, k * 6 + 2, none⟩ = some (.int .i64 (G k).c) ∧ w.cell? ⟨q, k * 6 + 3, none⟩ = some (.int .i64 (G k).d) ∧ w.cell? ⟨q, k * 6 + 4, none⟩ = some (.int .i64 (G k).e) ∧ w.cell? ⟨q, k * 6 + 5, none⟩ = some (.int .i64 (G k).f)) ∧ ∀ j, w.frozen? ⟨q, j, none⟩ = false := by
  have hk' : k < (rgL G n).length := by rw [rgL_len]; exact hk
  have e0 := h.pr.cell (sz := 6) (fun _ _ => rfl) k 0 hk' (by omega)
  have e1 := h.pr.cell (sz := 6) (fun _ _ => rfl) k 1 hk' (by omega)
  have e2 := h.pr.cell (sz := 6) (fun _ _ => rfl) k 2 hk' (by omega)
  have e3 := h.pr.cell (sz := 6) (fun _ _ => rfl) k 3 hk' (by omega)
  have e4 := h.pr.cell (sz := 6) (fun _ _ => rfl) k 4 hk' (by omega)
  have e5 := h.pr.cell (sz := 6) (fun _ _ => rfl) k 5 hk' (by omega)
  rw [rgL_get] at e0 e1 e2 e3 e4 e5
  exact ⟨⟨e0, e1, e2, e3, e4, e5⟩, h.pr.free⟩
theorem TreeR.congr (h : TreeR w g u q vs vn vp vc n F G vx) {F' : Nat → St} {G' : Nat → V6} (hF : ∀ i, i < n → F' i = F i) (hG : ∀ i, i < n → G' i = G i) : TreeR w g u q vs vn vp vc n F' G' vx :=
  ⟨h.tb, by rw [rgL_congr hF]; exact h.up, by rw [rgL_congr hG]; exact h.pr⟩
end
end Go.Proofs.YtgfaiihekibcbaaGreatDoor

/-
  Walks of potential: (*tree).steps, the iterator up to the anchor.
-/
set_option linter.unusedVariables false
namespace Go.Sx.Po
open Go.Sx.Sz Go.Sx.Sc
/-- Where the way up stands after k steps. -/
def curS (s : Sc) (n : Int) : Nat → Int
  | 0 => n
  | k + 1 => (upF s (curS s n k).toNat).a
theorem curS_succ (s : Sc) (n : Int) (k : Nat) : curS s (upF s n.toNat).a k = curS s n (k + 1) := by
  induction k with
  | zero => rfl
  | succ k ih => rw [curS, ih]; rfl
theorem chnL_at {s : Sc} (h : ScOk s) : ∀ (f : Nat) (n : Int), -1 ≤ n → n < f → n < s.notes.length → ∀ k, (k < (chnL s f n).length ↔ (0 ≤ curS s n k ∧ k ≤ (chnL s f n).length)) ∧ (∀ hk : k < (chnL s f n).length, (chnL s f n)[k] = upF s (curS s n k).toNat) ∧ (k ≤ (chnL s f n).length → -1 ≤ curS s n k ∧ curS s n k < s.notes.length)
  | 0, n, h0, h1, h2, k => by
    obtain rfl : n = -1 := by omega
    have e : chnL s 0 (-1) = [] := rfl
    rw [e]
    refine ⟨⟨fun hk => absurd hk (by simp), fun ⟨a, b⟩ => ?_⟩, fun hk => absurd hk (by simp), fun hk => ?_⟩
    · obtain rfl : k = 0 := by simpa using b
      exact absurd a (by show ¬ (0 : Int) ≤ -1; omega)
    · obtain rfl : k = 0 := by simpa using hk
      show (-1 : Int) ≤ -1 ∧ (-1 : Int) < _; omega
  | f + 1, n, h0, h1, h2, k => by
    by_cases hn : n < 0
    · obtain rfl : n = -1 := by omega
      have e : chnL s (f + 1) (-1) = [] := by rw [chnL, if_pos hn]
      rw [e]
      refine ⟨⟨fun hk => absurd hk (by simp), fun ⟨a, b⟩ => ?_⟩, fun hk => absurd hk (by simp), fun hk => ?_⟩
      · obtain rfl : k = 0 := by simpa using b
        exact absurd a (by show ¬ (0 : Int) ≤ -1; omega)
      · obtain rfl : k = 0 := by simpa using hk
        show (-1 : Int) ≤ -1 ∧ (-1 : Int) < _; omega
    · have e : chnL s (f + 1) n = upF s n.toNat :: chnL s f (upF s n.toNat).a := by rw [chnL, if_neg hn]
      have hu := up_lt h (n := n.toNat) (by omega)
      simp only [e]
      cases k with
      | zero =>
        refine ⟨⟨fun _ => ⟨by show 0 ≤ n; omega, Nat.zero_le _⟩, fun _ => by simp⟩, fun _ => rfl, fun _ => ?_⟩
        show -1 ≤ n ∧ n < _; omega
      | succ k =>
        obtain ⟨a, b, c⟩ := chnL_at h f (upF s n.toNat).a (by omega) (by omega) (by omega) k
        rw [curS_succ] at a b c
        refine ⟨⟨fun hk => ?_, fun ⟨p, q⟩ => ?_⟩, fun hk => ?_, fun hk => ?_⟩
        · have := a.1 (by simpa using hk)
          exact ⟨this.1, by simp; omega⟩
        · have := a.2 ⟨p, by simpa using q⟩
          simpa using this
        · exact b (by simpa using hk)
        · exact c (by simpa using hk)
theorem chn_at {s : Sc} (h : ScOk s) {n : Int} (h0 : -1 ≤ n) (h1 : n < s.notes.length) (k : Nat) (hk : k ≤ (chn s n).length) : (k < (chn s n).length ↔ 0 ≤ curS s n k) ∧ (∀ hk : k < (chn s n).length, (chn s n)[k] = upF s (curS s n k).toNat) ∧ -1 ≤ curS s n k ∧ curS s n k < s.notes.length := by
  obtain ⟨a, b, c⟩ := chnL_at h (n.toNat + 1) n h0 (by omega) h1 k
  exact ⟨⟨fun h => (a.1 h).1, fun h => a.2 ⟨h, hk⟩⟩, b, c hk⟩
end Go.Sx.Po
namespace Go.Proofs.YtgfaiihekibcbaaGreatDoor
open Go.RowKit Go.Sx Go.Sx.Sz Go.Sx.Sc Go.Sx.Po
attribute [local go_sem] Oper.semAt_some wide_fn wide_depth

def encS1 (p : St) : Array Value := #[.agg #[.int .i64 p.a, .int .i64 p.b, .int .i64 p.k]]
/-- What the iterator reads. -/
def StepN (tb g u q : Nat) (vs : Int) (vn vp vc vx : Value) (s : Sc) (G : Nat → V6) (W : World) : Prop :=
  W.heap[tb]? = some (.cells #[.pointer (some ⟨g, 0, none⟩)] 62 (0, 0)) ∧ TreeR W g u q vs vn vp vc s.notes.length (upF s) G vx

set_option maxRecDepth 100000 in
set_option maxHeartbeats 8000000 in
theorem steps_iter (tb g u q nb : Nat) (vs : Int) (vn vp vc vx : Value) (s : Sc) (G : Nat → V6) (hok : ScOk s) (n : Int) (h0 : -1 ≤ n) (h1 : n < s.notes.length) (hnt : nb ≠ tb) (hng : nb ≠ g) (hnu : nb ≠ u) (hnq : nb ≠ q) :
    IterT Tryz.prog 83 #[.pointer (some ⟨nb, 0, none⟩), .pointer (some ⟨tb, 0, none⟩)] encS1 (chn s n) (StepN tb g u q vs vn vp vc vx s G) nb (fun W => W.heap[nb]? = some (.cells #[.int .i64 n] 3 (0, 0))) := by
  intro l J Jx W hJ hJx hN hnbW hY hj0 hOwn
  have HC := Lib.hid fun k hk => chn_at hok h0 h1 k hk
  refine callsIn_of_wp Tryz.func83 rfl trivial ?_ rfl
  simp only [Tryz.ntmps83, List.size_toArray, List.length_cons, List.length_nil, Nat.reduceAdd, Nat.reduceSub, Array.replicate_succ, Array.replicate_zero, List.push_toArray, List.append_toArray, List.nil_append, List.cons_append]
  gi_wp2
  gi_loopw [] (fun wr => ∃ k : Nat, k ≤ (chn s n).length ∧ wr.heap[nb]? = some (.cells #[.int .i64 (curS s n k)] 3 (0, 0)) ∧ J k wr) (fun wr => match wr.cell? ⟨nb, 0, none⟩ with | some v => (intOf v + 1).toNat | none => 0)
  case atStart => exact ⟨0, Nat.zero_le _, hOwn, hj0⟩
  case round =>
    obtain ⟨k, hk, hb, hJk⟩ := hrel
    obtain ⟨hcl, hcg, hc1, hc2⟩ := HC.out k hk
    have HNX := Lib.hid (HC.out (k + 1))
    obtain ⟨ht, T⟩ := hN _ _ hJk
    obtain ⟨wo, rfl⟩ : ∃ z : World, z = wr := ⟨_, rfl⟩
    obtain ⟨c, hc⟩ : ∃ c, curS s n k = c := ⟨_, rfl⟩
    have hcs : curS s n (k + 1) = (upF s c.toNat).a := by rw [← hc]; rfl
    rw [hc] at hb hcl hcg hc1 hc2
    have cn0 := block_cell hb 0 _ rfl
    have f0 := ext_cells cn0
    by_cases hge : 0 ≤ c
    · obtain ⟨m, rfl⟩ : ∃ m : Nat, c = (m : Int) := ⟨c.toNat, by omega⟩
      have hm : m < s.notes.length := by omega
      have hklt := hcl.2 hge
      have hck := hcg hklt
      rw [Int.toNat_natCast] at hck hcs
      obtain ⟨u0, u1, u2⟩ := T.upC m hm
      have hup := up_lt hok hm
      obtain ⟨p, hp⟩ : ∃ p, upF s m = p := ⟨_, rfl⟩
      rw [hp] at u0 u1 u2 hck hcs hup
      have t1 : decide ((0 : Int) ≤ (m : Int)) = true := decide_eq_true (by omega)
      have f1 := ext_cells (block_cell ht 0 _ rfl); have f2 := ext_cells T.c4
      have g0 := ext_cells u0; have g1 := ext_cells u1; have g2 := ext_cells u2
      have j1 : (0 : Int) ≤ (m : Int) := by omega
      have j2 : (m : Int) < (s.notes.length : Int) := by omega
      have HYY := Lib.hid fun w' (x : Ext wo w') => hY k w' hklt (hJ k _ _ hJk (x.kb _))
      have HBN := Lib.hid fun w' (x : Ext wo w') => block_ext x hb
      have HM0 := Lib.hid cn0; have HPP := Lib.hid hp
      have HCS := Lib.hid hcs; have HCK := Lib.hid hck; have HUP := Lib.hid hup
      clear hb cn0 hJk ht T u0 u1 u2 hp hcs hck hup hcl hcg hc hge
      gi_wp2_with fail
      refine wpIn_region_ordT (free_wide _) [(0,true), (1,true), (2,true), (3,true), (4,true), (5,true), (6,true), (7,true), (8,true), (9,true), (10,true)] 11 Ext (Ext wo) wide (by kernel_rfl) (stable_ext _) (Ext.drawn _ _) ?_
      iterate 11 (first | (apply ordT_no rfl; rfl; (simp only [List.getElem_toArray, List.getElem_cons_succ, List.getElem_cons_zero, Act.put, List.setIfInBounds_toArray, List.set_cons_succ, List.set_cons_zero]; rfl)) | (apply ordT_yes rfl; rfl; (intro w' hw'; unfold opR; go_simp; exact ⟨Ext.refl _, rfl⟩); (simp only [List.getElem_toArray, List.getElem_cons_succ, List.getElem_cons_zero, Act.put, List.setIfInBounds_toArray, List.set_cons_succ, List.set_cons_zero]; rfl)))
      refine ordT_nil rfl ?_
      intro w9 x9
      obtain ⟨fn, tmps, assign, body, hy, hR⟩ := HYY.out w9 x9
      rw [HCK.out] at hy
      simp only [encS1] at hy
      have hb9 := HBN.out w9 x9
      have HB9 := Lib.hid hb9
      clear f0 f1 f2 g0 g1 g2 x9 hb9
      gi_wp2
      refine hR.mono ?_
      rintro e W3 ⟨hks, (⟨rfl, hJ3⟩ | ⟨rfl, hJx3⟩)⟩
      · have hb3 : W3.heap[nb]? = some (.cells #[.int .i64 m] 3 (0, 0)) := Eq.trans (show W3.heap[nb]? = w9.heap[nb]? from hks) HB9.out
        obtain ⟨ht, T⟩ := hN _ _ hJ3
        obtain ⟨u0, u1, u2⟩ := T.upC m hm
        rw [HPP.out] at u0 u1 u2
        have f0 := ext_cells (block_cell hb3 0 _ rfl)
        have f1 := ext_cells (block_cell ht 0 _ rfl); have f2 := ext_cells T.c4; have g0 := ext_cells u0
        have HJ3 := Lib.hid hJ3; have HB3 := Lib.hid hb3
        clear hks hJ3 hb3 ht T u0 u1 u2
        gi_wp2_with fail
        refine wpIn_region_ordT (free_wide _) [(0,true), (1,true), (2,true), (3,true), (4,true), (5,true), (6,true), (7,true)] 8 Ext (Ext W3) wide (by kernel_rfl) (stable_ext _) (Ext.drawn _ _) ?_
        iterate 8 (first | (apply ordT_no rfl; rfl; (simp only [List.getElem_toArray, List.getElem_cons_succ, List.getElem_cons_zero, Act.put, List.setIfInBounds_toArray, List.set_cons_succ, List.set_cons_zero]; rfl)) | (apply ordT_yes rfl; rfl; (intro w' hw'; unfold opR; go_simp; exact ⟨Ext.refl _, rfl⟩); (simp only [List.getElem_toArray, List.getElem_cons_succ, List.getElem_cons_zero, Act.put, List.setIfInBounds_toArray, List.set_cons_succ, List.set_cons_zero]; rfl)))
        refine ordT_nil (l := [_]) rfl ?_
        intro w10 x10
        have hb10 := block_ext x10 HB3.out
        have hc10 := block_cell hb10 0 _ rfl
        have hf10 := block_free hb10 0
        have hbn : (w10.setCell ⟨nb, 0, none⟩ (.int .i64 p.a)).heap[nb]? = some (.cells #[.int .i64 (curS s n (k + 1))] 3 (0, 0)) := by rw [HCS.out]; exact block_set hb10 0 (.int .i64 p.a)
        have hM1 := block_cell hbn 0 _ rfl
        have hJn := hJ (k + 1) _ _ HJ3.out ((x10.kb _).trans (kb_set w10 nb 0 (.int .i64 p.a)))
        rw [HCS.out] at hM1
        have FIN := Lib.hid (And.intro hbn (And.intro hJn hM1))
        clear f0 f1 f2 g0 hb10 hbn hM1 hJn x10
        gi_wp2
        go_roundw
        case rel => exact ⟨k + 1, by omega, FIN.out.1, FIN.out.2.1⟩
        case measure => simp [FIN.out.2.2, HM0.out, intOf]; have := HUP.out; omega
      · gi_wp2
        refine bodyPost_end (results_none rfl _ _ _) rfl ?_
        exact ⟨⟨_, rfl⟩, .inr hJx3⟩
    · have hk2 : k = (chn s n).length := by
        rcases Nat.lt_or_ge k (chn s n).length with h | h
        · exact absurd (hcl.1 h) hge
        · omega
      subst hk2
      have t1 : decide ((0 : Int) ≤ c) = false := decide_eq_false hge
      have HJK := Lib.hid hJk
      clear hb cn0 hJk ht T hcl hcg hcs hc hge
      gi_wp2_with fail
      refine wpIn_region_ordT (free_wide _) [(0,true), (1,true), (2,true), (3,true), (4,true), (5,true), (6,true), (7,true), (8,true), (9,true), (10,true)] 11 Ext (Ext wo) wide (by kernel_rfl) (stable_ext _) (Ext.drawn _ _) ?_
      iterate 11 (first | (apply ordT_no rfl; rfl; (simp only [List.getElem_toArray, List.getElem_cons_succ, List.getElem_cons_zero, Act.put, List.setIfInBounds_toArray, List.set_cons_succ, List.set_cons_zero]; rfl)) | (apply ordT_yes rfl; rfl; (intro w' hw'; unfold opR; go_simp; exact ⟨Ext.refl _, rfl⟩); (simp only [List.getElem_toArray, List.getElem_cons_succ, List.getElem_cons_zero, Act.put, List.setIfInBounds_toArray, List.set_cons_succ, List.set_cons_zero]; rfl)))
      refine ordT_nil rfl ?_
      intro w9 x9
      have hJn := hJ _ _ _ HJK.out (x9.kb _)
      clear f0 x9
      gi_wp2
      refine bodyPost_end (results_none rfl _ _ _) rfl ?_
      exact ⟨⟨_, rfl⟩, .inl hJn⟩

theorem steps_walk (g : Nat) (n : Int) (w : World) :
    Calls Tryz.prog 56 #[.pointer (some ⟨g, 0, none⟩), .int .i64 n] w fun e w' => e = .returned (.func (.func 83) #[] #[.pointer (some ⟨w.heap.size + 1, 0, none⟩), .pointer (some ⟨w.heap.size, 0, none⟩)]) ∧ (w.alloc (.cells #[.pointer (some ⟨g, 0, none⟩)] 62)).alloc (.cells #[.int .i64 n] 3) = w' := by
  go_enter Tryz.func56, Tryz.ntmps56
  go_wp2
  go_ret
  exact ⟨rfl, rfl⟩
end Go.Proofs.YtgfaiihekibcbaaGreatDoor

/-
  Walk: slices.Reverse at steps.
-/
set_option linter.unusedVariables false
namespace Go.Sx.Po
open Go.Sx.Sz Go.Sx.Sc
/-- k exchanges from the ends inward. -/
def revK (l : List St) (k : Nat) : List St := rgL (fun t => if t < k ∨ l.length ≤ t + k then l.getD (l.length - 1 - t) default else l.getD t default) l.length
theorem revK_len (l : List St) (k : Nat) : (revK l k).length = l.length := rgL_len _ _
theorem revK_at {l : List St} {k t : Nat} (ht : t < l.length) : (revK l k)[t]'(by rw [revK_len]; exact ht) = if t < k ∨ l.length ≤ t + k then l.getD (l.length - 1 - t) default else l.getD t default := by
  unfold revK; rw [rgL_get]
theorem revK_zero (l : List St) : revK l 0 = l := by
  refine List.ext_getElem (revK_len l 0) fun i h1 h2 => ?_
  rw [revK_at h2, if_neg (by omega), List.getD_eq_getElem?_getD, List.getElem?_eq_getElem h2]; rfl
theorem revK_step {l : List St} {k : Nat} (h : 2 * k + 1 < l.length) : ((revK l k).set k (l.getD (l.length - 1 - k) default)).set (l.length - 1 - k) (l.getD k default) = revK l (k + 1) := by
  unfold revK
  rw [rgL_set, rgL_set]
  refine rgL_congr fun i hi => ?_
  by_cases e1 : i = l.length - 1 - k
  · rw [if_pos e1, if_pos (by omega)]
    congr 1; omega
  · rw [if_neg e1]
    by_cases e2 : i = k
    · subst e2
      rw [if_pos rfl, if_pos (by omega)]
    · rw [if_neg e2]
      by_cases e3 : i < k ∨ l.length ≤ i + k
      · rw [if_pos e3, if_pos (by omega)]
      · rw [if_neg e3, if_neg (by omega)]
theorem revK_end {l : List St} {k : Nat} (h : l.length ≤ 2 * k + 1) : revK l k = l.reverse := by
  refine List.ext_getElem (by rw [revK_len, List.length_reverse]) fun i h1 h2 => ?_
  have hi : i < l.length := by rwa [List.length_reverse] at h2
  rw [revK_at hi, List.getElem_reverse]
  by_cases e : i < k ∨ l.length ≤ i + k
  · rw [if_pos e, List.getD_eq_getElem?_getD, List.getElem?_eq_getElem (by omega)]; rfl
  · rw [if_neg e, List.getD_eq_getElem?_getD, List.getElem?_eq_getElem hi]
    have : l.length - 1 - i = i := by omega
    simp [this]
end Go.Sx.Po
namespace Go.Proofs.YtgfaiihekibcbaaGreatDoor
open Go.RowKit Go.Sx Go.Sx.Sz Go.Sx.Sc Go.Sx.Po

theorem OwnR.putSt {w : World} {B : Nat} {e : TypeId} {g n cap : Nat} {xs : List St} (h : OwnR w B e 3 encSt (.slice (some ⟨g, 0, none⟩) n cap) xs) (k : Nat) (hk : k < xs.length) (p : St) :
    OwnR (w.setCells g (k * 3) (encSt p)) B e 3 encSt (.slice (some ⟨g, 0, none⟩) n cap) (xs.set k p) := by
  have h1 := OwnR.store h (fun _ _ => rfl) k 0 hk (by omega) ⟨p.a, xs[k].b, xs[k].k⟩ (.int .i64 p.a) rfl
  have h2 := OwnR.store h1 (fun _ _ => rfl) k 1 (by rw [List.length_set]; exact hk) (by omega) ⟨p.a, p.b, xs[k].k⟩ (.int .i64 p.b) (by rw [List.getElem_set_self]; rfl)
  have h3 := OwnR.store h2 (fun _ _ => rfl) k 2 (by rw [List.length_set, List.length_set]; exact hk) (by omega) p (.int .i64 p.k) (by rw [List.getElem_set_self]; rfl)
  rw [List.set_set, List.set_set] at h3
  exact h3

set_option maxRecDepth 100000 in
set_option maxHeartbeats 8000000 in
theorem rev_walk (B : Nat) (v : Value) (l : List St) (hl : l.length ≤ 1000) (w : World) (O : OwnR w B 39 3 encSt v l) :
    Calls Tryz.prog 58 #[v] w fun e w' => e = .returned (.tuple #[]) ∧ OwnR w' B 39 3 encSt v l.reverse ∧ Kb v.ownBlock w w' := by
  obtain ⟨a?, ca, rfl, -, -, hla⟩ := (O.sl (fun _ _ => rfl) (by omega)).len
  have O0 : OwnR w B 39 3 encSt (.slice a? l.length ca) (revK l 0) := by rw [revK_zero]; exact O
  have E1 : IntKind.i64.wrap ((l.length : Int) - 1) = (l.length : Int) - 1 := IntWalk.i64_in _ (by omega)
  obtain ⟨gg, hgg⟩ : ∃ z, (Value.slice a? l.length ca).ownBlock = z := ⟨_, rfl⟩
  go_enter Tryz.func58, Tryz.ntmps58
  go_wp2
  go_loopw [2, 3] (fun i j wr => ∃ k : Nat, 2 * k ≤ l.length ∧ i = .int .i64 k ∧ j = .int .i64 ((l.length : Int) - 1 - (k : Int)) ∧ OwnR wr B 39 3 encSt (.slice a? l.length ca) (revK l k) ∧ Kb gg w wr) (fun i j _ => l.length - (intOf i).toNat)
  case atStart => exact ⟨0, by omega, rfl, by simp, O0, Kb.refl _ _⟩
  case round =>
    obtain ⟨k, hk, rfl, rfl, Ok, K⟩ := hrel
    clear O O0 E1
    by_cases hlt : 2 * k + 1 < l.length
    · obtain ⟨m, hm⟩ : ∃ m : Nat, m = l.length - 1 - k := ⟨_, rfl⟩
      have hmi : (l.length : Int) - 1 - (k : Int) = (m : Int) := by omega
      have hml : m < l.length := by omega
      have hkl : k < l.length := by omega
      have hkm : k < m := by omega
      have hne : revK l k ≠ [] := fun e => by have := revK_len l k; rw [e] at this; simp at this; omega
      obtain ⟨g, cap, e1, hBg, hgl, hfr⟩ := OwnR.block Ok hne
      rw [revK_len] at e1
      obtain ⟨rfl, -, rfl⟩ : a? = some ⟨g, 0, none⟩ ∧ l.length = l.length ∧ ca = cap := by simpa using e1
      obtain ⟨x, hx⟩ : ∃ x, l.getD k default = x := ⟨_, rfl⟩
      obtain ⟨y, hy⟩ : ∃ y, l.getD m default = y := ⟨_, rfl⟩
      have hxe : (revK l k)[k]'(by rw [revK_len]; exact hkl) = x := by rw [revK_at hkl, if_neg (by omega)]; exact hx
      have hye : (revK l k)[m]'(by rw [revK_len]; exact hml) = y := by rw [revK_at hml, if_neg (by omega)]; exact hy
      have c0 := OwnR.cell Ok (fun _ _ => rfl) k 0 (by rw [revK_len]; exact hkl) (by omega)
      have c1 := OwnR.cell Ok (fun _ _ => rfl) k 1 (by rw [revK_len]; exact hkl) (by omega)
      have c2 := OwnR.cell Ok (fun _ _ => rfl) k 2 (by rw [revK_len]; exact hkl) (by omega)
      have d0 := OwnR.cell Ok (fun _ _ => rfl) m 0 (by rw [revK_len]; exact hml) (by omega)
      have d1 := OwnR.cell Ok (fun _ _ => rfl) m 1 (by rw [revK_len]; exact hml) (by omega)
      have d2 := OwnR.cell Ok (fun _ _ => rfl) m 2 (by rw [revK_len]; exact hml) (by omega)
      rw [hxe] at c0 c1 c2
      rw [hye] at d0 d1 d2
      simp only [encSt, List.getD_cons_zero, List.getD_cons_succ, Nat.add_zero] at c0 c1 c2 d0 d1 d2
      have f0 := hfr (k * 3); have f1 := hfr (k * 3 + 1); have f2 := hfr (k * 3 + 2)
      have g0 := hfr (m * 3); have g1 := hfr (m * 3 + 1); have g2 := hfr (m * 3 + 2)
      have P1 := OwnR.putSt Ok k (by rw [revK_len]; exact hkl) y
      have P2 := OwnR.putSt P1 m (by rw [List.length_set, revK_len]; exact hml) x
      rw [← hx, ← hy, hm, revK_step hlt, ← hm, hx, hy] at P2
      have HP2 := Lib.hid P2
      rw [hmi]
      have t1 : decide (k < m) = true := decide_eq_true (by omega)
      have i1 : (0 : Int) ≤ (k : Int) := by omega
      have i2 : (k : Int) < (l.length : Int) := by omega
      have i3 : (0 : Int) ≤ (m : Int) := by omega
      have i4 : (m : Int) < (l.length : Int) := by omega
      have HM := Lib.hid hm
      have HKM := Lib.hid hkm
      have n00 : ¬ m * 3 = k * 3 := by omega
      have o00 : ¬ k * 3 = m * 3 := by omega
      have n01 : ¬ m * 3 = k * 3 + 1 := by omega
      have o01 : ¬ k * 3 + 1 = m * 3 := by omega
      have n02 : ¬ m * 3 = k * 3 + 2 := by omega
      have o02 : ¬ k * 3 + 2 = m * 3 := by omega
      have n10 : ¬ m * 3 + 1 = k * 3 := by omega
      have o10 : ¬ k * 3 = m * 3 + 1 := by omega
      have n11 : ¬ m * 3 + 1 = k * 3 + 1 := by omega
      have o11 : ¬ k * 3 + 1 = m * 3 + 1 := by omega
      have n12 : ¬ m * 3 + 1 = k * 3 + 2 := by omega
      have o12 : ¬ k * 3 + 2 = m * 3 + 1 := by omega
      have n20 : ¬ m * 3 + 2 = k * 3 := by omega
      have o20 : ¬ k * 3 = m * 3 + 2 := by omega
      have n21 : ¬ m * 3 + 2 = k * 3 + 1 := by omega
      have o21 : ¬ k * 3 + 1 = m * 3 + 2 := by omega
      have n22 : ¬ m * 3 + 2 = k * 3 + 2 := by omega
      have o22 : ¬ k * 3 + 2 = m * 3 + 2 := by omega
      clear Ok P1 P2 hfr hx hy hxe hye hm hmi hne e1 hkm
      go_wp2_with fail
      go_region
      have HGG : Hid (gg = some g) := Lib.hid (hgg.symm.trans rfl)
      have KK := K.trans (by rw [HGG.out]; exact (kb_sets g (encSt y) wr (k * 3)).trans (kb_sets g (encSt x) _ (m * 3)))
      have FIN := Lib.hid (And.intro HP2.out KK)
      have E3 : IntKind.i64.wrap ((m : Int) - 1) = (m : Int) - 1 := IntWalk.i64_in _ (by have := HKM.out; omega)
      clear KK c0 c1 c2 d0 d1 d2 f0 f1 f2 g0 g1 g2 n00 n01 n02 n10 n11 n12 n20 n21 n22 o00 o01 o02 o10 o11 o12 o20 o21 o22
      go_wp2
      go_roundw
      case rel => exact ⟨k + 1, by have := HM.out; have := HKM.out; omega, by go_num, congrArg (Value.int .i64) (by have := HM.out; have := HKM.out; omega), FIN.out.1.ext (Ext.drawn _ _), FIN.out.2.trans (Kb.drawn _ _ _)⟩
      case measure => have := HM.out; have := HKM.out; simp [intOf] <;> omega
    · obtain ⟨jn, hj⟩ : ∃ jn : Int, (l.length : Int) - 1 - (k : Int) = jn := ⟨_, rfl⟩
      have t1 : decide ((k : Int) < jn) = false := decide_eq_false (by omega)
      rw [revK_end (by omega)] at Ok
      rw [hj]
      clear hj
      go_wp2
      refine bodyPost_end (results_none rfl _ _ _) rfl ?_
      exact ⟨rfl, Ok, hgg ▸ K⟩
end Go.Proofs.YtgfaiihekibcbaaGreatDoor

/-
  Walks: slices.Backward over pairs.
-/
set_option linter.unusedVariables false
namespace Go.Proofs.YtgfaiihekibcbaaGreatDoor
open Go.RowKit Go.Sx Go.Sx.Sz Go.Sx.Sc Go.Sx.Po
attribute [local go_sem] Oper.semAt_some wide_fn wide_depth

def prC (p : Pr) : Array Value := #[.int .i64 p.a, .int .i64 p.b, .int .i64 p.want.a, .int .i64 p.want.b, .int .i64 p.want.c, .int .i64 p.want.d, .int .i64 p.want.e, .int .i64 p.want.f, .int .i64 p.bound]
def encBP (s : Sc) (m : Nat) : Array Value := #[.int .i64 m, .agg (prC (s.P m))]

set_option maxRecDepth 100000 in
set_option maxHeartbeats 4000000 in
theorem backp_iter (Bs : Nat) (v : Value) (s : Sc) :
    IterC Tryz.prog 75 #[.pointer (some ⟨Bs, 0, none⟩)] (encBP s) (rgL (fun j => s.pairs.length - 1 - j) s.pairs.length) (fun W => W.cell? ⟨Bs, 0, none⟩ = some v ∧ Sl W 9 encP v s.pairs) := by
  intro y J Jx W hJ hJx hN hY h0
  rw [rgL_len] at *
  obtain ⟨hb0, hs0⟩ := hN _ _ h0
  obtain ⟨a?, cap, rfl, h1, h2, h3⟩ := hs0.len
  clear h1 h2 hs0
  refine callsIn_of_wp Tryz.func75 rfl trivial ?_ rfl
  simp only [Tryz.ntmps75, List.size_toArray, List.length_cons, List.length_nil, Nat.reduceAdd, Nat.reduceSub, Array.replicate_succ, Array.replicate_zero, List.push_toArray, List.append_toArray, List.nil_append, List.cons_append]
  gi_wp2
  gi_loopw [3] (fun i wr => ∃ k : Nat, k ≤ s.pairs.length ∧ i = .int .i64 ((s.pairs.length : Int) - 1 - (k : Int)) ∧ J k wr) (fun i _ => (intOf i + 1).toNat)
  case atStart => exact ⟨0, Nat.zero_le _, by simp, h0⟩
  case round =>
    obtain ⟨k, hk, rfl, hJk⟩ := hrel
    obtain ⟨hb, hs⟩ := hN _ _ hJk
    clear hb0
    by_cases hlt : k < s.pairs.length
    · obtain ⟨m, hm⟩ : ∃ m : Nat, m = s.pairs.length - 1 - k := ⟨_, rfl⟩
      have hmi : (s.pairs.length : Int) - 1 - (k : Int) = (m : Int) := by omega
      have hml : m < s.pairs.length := by omega
      obtain ⟨b0, o0, rfl, A⟩ := Sl.pr hs m hml
      rw [← Sc.P_eq hml] at A
      obtain ⟨fn, tmps, assign, body, hy, hR⟩ := hY k wr (by rw [rgL_len]; exact hlt) hJk
      rw [rgL_get, ← hm] at hy
      simp only [encBP, prC] at hy
      obtain ⟨p, hp⟩ : ∃ p, s.P m = p := ⟨_, rfl⟩
      rw [hp] at hy A
      obtain ⟨q0, q1, q2, q3, q4, q5, q6, q7, q8⟩ := A
      rw [hmi]
      have HM := Lib.hid hm
      have j1 : (0 : Int) ≤ (m : Int) := by omega
      have j2 : (m : Int) < (s.pairs.length : Int) := by omega
      clear hs hm hmi hp
      gi_wp2
      refine hR.mono ?_
      rintro e W3 (⟨rfl, hJ3⟩ | ⟨rfl, hJx3⟩)
      · gi_wp2
        go_roundw
        case rel => exact ⟨k + 1, by omega, congrArg (Value.int .i64) (by have := HM.out; omega), hJ3⟩
        case measure => have := HM.out; simp [intOf] <;> omega
      · gi_wp2
        refine bodyPost_ret (results_none rfl _ _ _) rfl ?_
        exact ⟨⟨_, rfl⟩, .inr hJx3⟩
    · obtain rfl : k = s.pairs.length := by omega
      clear hs
      gi_wp2
      refine bodyPost_end (results_none rfl _ _ _) rfl ?_
      exact ⟨⟨_, rfl⟩, .inl hJk⟩

theorem backp_walk (a? : Option Addr) (n c : Nat) (w : World) :
    Calls Tryz.prog 46 #[.slice a? n c] w fun e w' => e = .returned (.func (.func 75) #[] #[.pointer (some ⟨w.heap.size, 0, none⟩)]) ∧ w.alloc (.cells #[.slice a? n c] 23) = w' := by
  go_enter Tryz.func46, Tryz.ntmps46
  go_wp2
  go_ret
  exact ⟨rfl, rfl⟩
end Go.Proofs.YtgfaiihekibcbaaGreatDoor

/-
  Where voices end: the map of plant, as a function of the key.
-/
set_option linter.unusedVariables false
namespace Go.Proofs.YtgfaiihekibcbaaGreatDoor
open Go.RowKit Go.Sx Go.Sx.Sz Go.Sx.Sc Go.Sx.Po Go.WideMaps

theorem laidOut_pl : laidOutB Tryz.prog = true := by kernel_rfl
theorem arr2_pl : ArrKey Tryz.prog 102 3 2 := ⟨Tryz.underlying102, by kernel_rfl, by kernel_rfl, by kernel_rfl⟩
theorem keyed_pl : Maps.Keyed Tryz.prog 102 := Maps.Keyed.of_law (deep_law_laid laidOut_pl (m := 2) (by omega) (of_decide_eq_true (by kernel_rfl)) (by kernel_rfl) (by rw [Tryz.underlying102]))
def klitZ (a c : Int) : Lit := .string (keyBytes [.int .i64 a, .int .i64 c])
def keyOk (a c : Int) : Prop := (-1000000 ≤ a ∧ a ≤ 1000000) ∧ (-1000000 ≤ c ∧ c ≤ 1000000)
theorem keyZ {a c : Int} (h : keyOk a c) : keyOf Tryz.prog 102 (.agg #[.int .i64 a, .int .i64 c]) = some (klitZ a c) := by
  obtain ⟨⟨h1, h2⟩, h3, h4⟩ := h
  exact keyOf_pair arr2_pl Tryz.underlying3 ⟨Tryz.prog.types.size - 1, by kernel_rfl⟩ (WalkArith.wf_i64 (by omega)) (WalkArith.wf_i64 (by omega))
theorem klitZ_ne {a c a' c' : Int} (h : keyOk a c) (h' : keyOk a' c') (hne : ¬ (a = a' ∧ c = c')) : klitZ a c ≠ klitZ a' c' := fun e => by
  have := keyed_pl.inj (keyZ h) ((keyZ h').trans (by rw [e]))
  simp only [Value.agg.injEq, Array.mk.injEq, List.cons.injEq, Value.int.injEq, true_and, and_true] at this
  exact hne this

/-- The map when the first k notes are in it. -/
noncomputable def endS (s : Sc) : Nat → Lit → Option Lit
  | 0 => fun _ => none
  | k + 1 => updL (endS s k) (klitZ (s.N k).v (s.N k).u) (.int .i64 k)
theorem note_key {s : Sc} (h : ScOk s) {k : Nat} (hk : k < s.notes.length) : keyOk (s.N k).v (s.N k).u ∧ keyOk (s.N k).v (s.N k).f := by
  have h1 := h.nt.note hk
  have h2 := h.sz.1
  unfold noteOk at h1
  unfold keyOk
  omega
theorem endS_at {s : Sc} (h : ScOk s) {j : Nat} : ∀ {k : Nat}, j < k → k ≤ s.notes.length → endS s k (klitZ (s.N j).v (s.N j).u) = some (.int .i64 j)
  | 0, hj, _ => absurd hj (by omega)
  | k + 1, hj, hk => by
    unfold endS
    by_cases e : j = k
    · subst e; exact updL_same _ _ _
    · rw [updL_other _ (klitZ_ne (note_key h (k := j) (by omega)).1 (note_key h (k := k) (by omega)).1 fun hc => e (h.ends (i := j) (k := k) (by omega) (by omega) hc.1.symm hc.2.symm))]
      exact endS_at h (by omega) (by omega)
/-- What a tied note finds in the map. -/
theorem endS_tie {s : Sc} (h : ScOk s) {n : Nat} (hn : n < s.notes.length) (ht : (s.N n).tied = true) : ∃ j : Nat, aheadF s n = (j : Int) ∧ endS s s.notes.length (klitZ (s.N n).v (s.N n).f) = some (.int .i64 (j : Int)) := by
  obtain ⟨j, e, hj, hv, hu, -⟩ := ahead_tie h hn ht
  refine ⟨j, e, ?_⟩
  have := endS_at h (j := j) (k := s.notes.length) (by omega) (Nat.le_refl _)
  rw [hv, hu] at this
  exact this
end Go.Proofs.YtgfaiihekibcbaaGreatDoor

/-
  Walks of potential: add, round, section, ranged, pitch.
-/
set_option linter.unusedVariables false
namespace Go.Sx.Po
open Go.Sx.Sz
/-- The first k exponents of a sum. -/
def addK (a b : V6) (n : Int) (k : Nat) : V6 := V6.of fun j => if j < k then a.get j + n * b.get j else a.get j
theorem addK_zero (a b : V6) (n : Int) : addK a b n 0 = a := V6.ext' fun k hk => by rw [addK, V6.get_of _ hk, if_neg (by omega)]
theorem addK_six (a b : V6) (n : Int) : addK a b n 6 = a.add b n := V6.ext' fun k hk => by rw [addK, V6.get_of _ hk, if_pos hk, V6.add, V6.get_of _ hk]
theorem addK_get (a b : V6) (n : Int) {k : Nat} (hk : k < 6) : (addK a b n k).get k = a.get k := by rw [addK, V6.get_of _ hk, if_neg (by omega)]
theorem addK_succ (a b : V6) (n : Int) {k : Nat} (hk : k < 6) : (addK a b n (k + 1)).cells = (addK a b n k).cells.setIfInBounds k (.int .i64 (a.get k + n * b.get k)) := by
  rcases lt6 hk with rfl | rfl | rfl | rfl | rfl | rfl <;> rfl
/-- Exponents that no sum of a few hundred takes out of range. -/
def Sml (M : Int) (x : V6) : Prop := ∀ k, k < 6 → -M ≤ x.get k ∧ x.get k ≤ M
theorem Sml.of {x : V6} {M : Int} (h : within x M = true) : Sml M x := Sz.within_iff.1 h
theorem Sml.mono {x : V6} {M N : Int} (h : Sml M x) (hn : M ≤ N) : Sml N x := fun k hk => by have := h k hk; omega
theorem Sml.zero {M : Int} (h : 0 ≤ M) : Sml M V6.zero := fun k hk => by
  rcases lt6 hk with rfl | rfl | rfl | rfl | rfl | rfl <;> exact ⟨by show -M ≤ (0 : Int); omega, by show (0 : Int) ≤ M; omega⟩
theorem Sml.add {x y : V6} {M N n : Int} (hx : Sml M x) (hy : Sml N y) (hn : n = 1 ∨ n = -1) : Sml (M + N) (x.add y n) := fun k hk => by
  have a := hx k hk; have b := hy k hk
  rw [V6.add, V6.get_of _ hk]
  rcases hn with rfl | rfl <;> omega
end Go.Sx.Po
namespace Go.Proofs.YtgfaiihekibcbaaGreatDoor
open Go.RowKit Go.Sx Go.Sx.Sz Go.Sx.Sc Go.Sx.Po

set_option maxRecDepth 100000 in
set_option maxHeartbeats 2000000 in
theorem padd_walk (a b : V6) (n : Int) (hn : n = 1 ∨ n = -1) (ha : Sml 1000000 a) (hb : Sml 1000000 b) (w : World) :
    Calls Tryz.prog 51 #[.agg #[.int .i64 a.a, .int .i64 a.b, .int .i64 a.c, .int .i64 a.d, .int .i64 a.e, .int .i64 a.f], .agg #[.int .i64 b.a, .int .i64 b.b, .int .i64 b.c, .int .i64 b.d, .int .i64 b.e, .int .i64 b.f], .int .i64 n] w fun e w' => e = .returned (.agg #[.int .i64 (a.add b n).a, .int .i64 (a.add b n).b, .int .i64 (a.add b n).c, .int .i64 (a.add b n).d, .int .i64 (a.add b n).e, .int .i64 (a.add b n).f]) ∧ Ext w w' := by
  have ix := fun (k : Nat) (hk : k < 6) (w : World) => run_index_v6 (P := Tryz.prog) (t := 32) Tryz.underlying32 Tryz.underlying3 (by kernel_rfl) b hk w
  have X0 : Ext w (((w.alloc (.cells (#[.int .i64 a.a, .int .i64 a.b, .int .i64 a.c, .int .i64 a.d, .int .i64 a.e, .int .i64 a.f] : Array Value) 32)).alloc (.cells (#[.int .i64 b.a, .int .i64 b.b, .int .i64 b.c, .int .i64 b.d, .int .i64 b.e, .int .i64 b.f] : Array Value) 32)).alloc (.cells #[.int .i64 0, .int .i64 0, .int .i64 0, .int .i64 0, .int .i64 0, .int .i64 0] 32)) := (by repeat (first | with_reducible exact Ext.refl _ | with_reducible assumption | with_reducible apply Ext.alloc | with_reducible apply Ext.drew | (with_reducible refine Ext.setCell ?_ (by (try simp) <;> omega) _)))
  have b0_0 := block_alloc (block_alloc (block_new w (.cells (#[.int .i64 a.a, .int .i64 a.b, .int .i64 a.c, .int .i64 a.d, .int .i64 a.e, .int .i64 a.f] : Array Value) 32)) (.cells (#[.int .i64 b.a, .int .i64 b.b, .int .i64 b.c, .int .i64 b.d, .int .i64 b.e, .int .i64 b.f] : Array Value) 32)) (.cells #[.int .i64 0, .int .i64 0, .int .i64 0, .int .i64 0, .int .i64 0, .int .i64 0] 32)
  have b0_1 := block_alloc (block_at (w := (w.alloc (.cells (#[.int .i64 a.a, .int .i64 a.b, .int .i64 a.c, .int .i64 a.d, .int .i64 a.e, .int .i64 a.f] : Array Value) 32))) (n := w.heap.size + 1) (by simp) (.cells (#[.int .i64 b.a, .int .i64 b.b, .int .i64 b.c, .int .i64 b.d, .int .i64 b.e, .int .i64 b.f] : Array Value) 32)) (.cells #[.int .i64 0, .int .i64 0, .int .i64 0, .int .i64 0, .int .i64 0, .int .i64 0] 32)
  have b0_2 := block_at (w := ((w.alloc (.cells (#[.int .i64 a.a, .int .i64 a.b, .int .i64 a.c, .int .i64 a.d, .int .i64 a.e, .int .i64 a.f] : Array Value) 32)).alloc (.cells (#[.int .i64 b.a, .int .i64 b.b, .int .i64 b.c, .int .i64 b.d, .int .i64 b.e, .int .i64 b.f] : Array Value) 32))) (n := w.heap.size + 1 + 1) (by simp) (.cells #[.int .i64 0, .int .i64 0, .int .i64 0, .int .i64 0, .int .i64 0, .int .i64 0] 32)
  obtain ⟨W0, hW0⟩ : ∃ W, (((w.alloc (.cells (#[.int .i64 a.a, .int .i64 a.b, .int .i64 a.c, .int .i64 a.d, .int .i64 a.e, .int .i64 a.f] : Array Value) 32)).alloc (.cells (#[.int .i64 b.a, .int .i64 b.b, .int .i64 b.c, .int .i64 b.d, .int .i64 b.e, .int .i64 b.f] : Array Value) 32)).alloc (.cells #[.int .i64 0, .int .i64 0, .int .i64 0, .int .i64 0, .int .i64 0, .int .i64 0] 32)) = W := ⟨_, rfl⟩
  obtain ⟨B0, hB0⟩ : ∃ B, w.heap.size = B := ⟨_, rfl⟩
  rw [hW0] at X0 b0_0 b0_1 b0_2
  rw [hB0] at b0_0 b0_1 b0_2
  have HZ0 : Hid (w.heap.size ≤ B0) := Lib.hid (by omega)
  have HW0 := Lib.hid hW0; have HB0 := Lib.hid hB0
  clear hW0 hB0
  have d0 := block_cell b0_1 0 _ rfl; have d1 := block_cell b0_1 1 _ rfl; have d2 := block_cell b0_1 2 _ rfl; have d3 := block_cell b0_1 3 _ rfl; have d4 := block_cell b0_1 4 _ rfl; have d5 := block_cell b0_1 5 _ rfl
  have hA : W0.heap[B0]? = some (.cells (addK a b n 0).cells 32 (0, 0)) := by rw [addK_zero]; exact b0_0
  have H1 := Lib.hid ha; have H2 := Lib.hid hb
  have HA := Lib.hid hA; have HR := Lib.hid b0_2
  clear ha hb b0_0 b0_1 b0_2 hA
  go_enter Tryz.func51, Tryz.ntmps51
  go_wp2
  rw [HW0.out, HB0.out]
  clear d0 d1 d2 d3 d4 d5 HW0 HB0
  go_loopw [10] (fun i wr => ∃ k : Nat, k ≤ 6 ∧ i = .int .i64 k ∧ wr.heap[B0]? = some (.cells (addK a b n k).cells 32 (0, 0)) ∧ wr.heap[B0 + 1 + 1]? = some (.cells #[.int .i64 0, .int .i64 0, .int .i64 0, .int .i64 0, .int .i64 0, .int .i64 0] 32 (0, 0)) ∧ Ext w wr) (fun i _ => 6 - (intOf i).toNat)
  case atStart => exact ⟨0, by omega, by first | rfl | trivial, HA.out, HR.out, X0⟩
  case round =>
    obtain ⟨k, hk, rfl, hA, hR, X⟩ := hrel
    clear HA HR
    by_cases hlt : k < 6
    · have hx := ix k hlt
      clear ix
      have a1 := H1.out k hlt; have a2 := H2.out k hlt
      have hc := block_cell hA k _ (V6.cells_at _ hlt)
      rw [addK_get _ _ _ hlt] at hc
      have hf := block_free hA k
      have hR2 : (wr.setCell ⟨B0, k, none⟩ (.int .i64 (a.get k + n * b.get k))).heap[B0 + 1 + 1]? = some (.cells #[.int .i64 0, .int .i64 0, .int .i64 0, .int .i64 0, .int .i64 0, .int .i64 0] 32 (0, 0)) := block_ne hR k (.int .i64 (a.get k + n * b.get k)) (by omega)
      have NX := Lib.hid (And.intro (block_set hA k (.int .i64 (a.get k + n * b.get k))) (And.intro hR2 (X.setCell (p := ⟨B0, k, none⟩) HZ0.out (.int .i64 (a.get k + n * b.get k)))))
      rw [← addK_succ a b n hlt] at NX
      obtain ⟨x, hx1⟩ : ∃ x, a.get k = x := ⟨_, rfl⟩
      obtain ⟨y, hy1⟩ : ∃ y, b.get k = y := ⟨_, rfl⟩
      rw [hx1] at a1 hc NX; rw [hy1] at a2 hx NX
      have E1 : IntKind.i64.wrap (n * y) = n * y := IntWalk.i64_in _ (by rcases hn with rfl | rfl <;> omega)
      have E2 : IntKind.i64.wrap (x + n * y) = x + n * y := IntWalk.i64_in _ (by rcases hn with rfl | rfl <;> omega)
      have i1 : (0 : Int) ≤ (k : Int) := by omega
      have i2 : (k : Int) < 6 := by omega
      clear hA hR hR2 X hx1 hy1 a1 a2 hn
      go_wp2
      go_roundw
      case rel => exact ⟨k + 1, by omega, by go_num, NX.out.1, NX.out.2.1, NX.out.2.2⟩
      case measure => simp [intOf]; omega
    · obtain rfl : k = 6 := by omega
      rw [addK_six] at hA
      obtain ⟨r, hr⟩ : ∃ r, a.add b n = r := ⟨_, rfl⟩
      have HRE := Lib.hid hr
      rw [hr] at hA
      clear hr
      have hA : wr.heap[B0]? = some (.cells (#[.int .i64 r.a, .int .i64 r.b, .int .i64 r.c, .int .i64 r.d, .int .i64 r.e, .int .i64 r.f] : Array Value) 32 (0, 0)) := hA
      have c0 := block_cell hA 0 _ rfl; have c1 := block_cell hA 1 _ rfl; have c2 := block_cell hA 2 _ rfl; have c3 := block_cell hA 3 _ rfl; have c4 := block_cell hA 4 _ rfl; have c5 := block_cell hA 5 _ rfl
      have n2 := setRow_at hR (#[.int .i64 r.a, .int .i64 r.b, .int .i64 r.c, .int .i64 r.d, .int .i64 r.e, .int .i64 r.f] : Array Value)
      have XX := X.setRow (g := B0 + 1 + 1) (by have := HZ0.out; omega) (#[.int .i64 r.a, .int .i64 r.b, .int .i64 r.c, .int .i64 r.d, .int .i64 r.e, .int .i64 r.f] : Array Value)
      have e0 := block_cell n2 0 _ rfl; have e1 := block_cell n2 1 _ rfl; have e2 := block_cell n2 2 _ rfl; have e3 := block_cell n2 3 _ rfl; have e4 := block_cell n2 4 _ rfl; have e5 := block_cell n2 5 _ rfl
      have HRR := Lib.hid hR
      clear ix hA hR n2
      go_wp2_with (first | (refine wpList_store_row rfl _ _ _ rfl (B0 + 1 + 1) _ rfl rfl _ _ HRR.out (by kernel_rfl) rfl (by simp [Value.oneCell']) ?_) | fail)
      refine bodyPost_ret (v := .agg #[.int .i64 r.a, .int .i64 r.b, .int .i64 r.c, .int .i64 r.d, .int .i64 r.e, .int .i64 r.f]) (by simp [results, Tryz.results51, go_sem, e0, e1, e2, e3, e4, e5]) rfl ⟨by rw [HRE.out], XX⟩

set_option maxRecDepth 100000 in
set_option maxHeartbeats 1000000 in
theorem pround_walk (p : St) (w : World) :
    Calls Tryz.prog 57 #[.agg #[.int .i64 p.a, .int .i64 p.b, .int .i64 p.k]] w fun e w' => e = .returned (.agg #[.int .i64 p.b, .int .i64 p.a, .int .i64 p.k]) ∧ Ext w w' := by
  have X0 : Ext w ((w.alloc (.cells #[.int .i64 p.a, .int .i64 p.b, .int .i64 p.k] 39)).alloc (.cells #[.int .i64 0, .int .i64 0, .int .i64 0] 39)) := (by repeat (first | with_reducible exact Ext.refl _ | with_reducible assumption | with_reducible apply Ext.alloc | with_reducible apply Ext.drew | (with_reducible refine Ext.setCell ?_ (by (try simp) <;> omega) _)))
  have b0_0 := block_alloc (block_new w (.cells #[.int .i64 p.a, .int .i64 p.b, .int .i64 p.k] 39)) (.cells #[.int .i64 0, .int .i64 0, .int .i64 0] 39)
  have b0_1 := block_at (w := (w.alloc (.cells #[.int .i64 p.a, .int .i64 p.b, .int .i64 p.k] 39))) (n := w.heap.size + 1) (by simp) (.cells #[.int .i64 0, .int .i64 0, .int .i64 0] 39)
  obtain ⟨W0, hW0⟩ : ∃ W, ((w.alloc (.cells #[.int .i64 p.a, .int .i64 p.b, .int .i64 p.k] 39)).alloc (.cells #[.int .i64 0, .int .i64 0, .int .i64 0] 39)) = W := ⟨_, rfl⟩
  obtain ⟨B0, hB0⟩ : ∃ B, w.heap.size = B := ⟨_, rfl⟩
  rw [hW0] at X0 b0_0 b0_1
  rw [hB0] at b0_0 b0_1
  have HZ0 : Hid (w.heap.size ≤ B0) := Lib.hid (by omega)
  have HW0 := Lib.hid hW0; have HB0 := Lib.hid hB0
  clear hW0 hB0
  have d0 := block_cell b0_0 0 _ rfl; have d1 := block_cell b0_0 1 _ rfl; have d2 := block_cell b0_0 2 _ rfl
  have HRR := Lib.hid b0_1
  have n2 := setRow_at b0_1 #[.int .i64 p.b, .int .i64 p.a, .int .i64 p.k]
  have XX := X0.setRow (g := B0 + 1) (by have := HZ0.out; omega) #[.int .i64 p.b, .int .i64 p.a, .int .i64 p.k]
  have e0 := block_cell n2 0 _ rfl; have e1 := block_cell n2 1 _ rfl; have e2 := block_cell n2 2 _ rfl
  clear b0_0 b0_1 n2
  go_enter Tryz.func57, Tryz.ntmps57
  go_upto_region 1 with fail
  rw [HW0.out, HB0.out]
  clear HW0 HB0
  go_wp2_with (first | (refine wpList_store_row rfl _ _ _ rfl (B0 + 1) _ rfl rfl _ _ HRR.out (by kernel_rfl) rfl (by simp [Value.oneCell']) ?_) | fail)
  refine bodyPost_ret (v := .agg #[.int .i64 p.b, .int .i64 p.a, .int .i64 p.k]) (by simp [results, Tryz.results57, go_sem, e0, e1, e2]) rfl ⟨rfl, XX⟩

theorem cnt_sec (s : Sc) (t : Int) : cntLt s.cads (t + 1) = secF s t := by
  unfold cntLt secF
  exact List.countP_congr fun x _ => by rw [decide_eq_true_eq, decide_eq_true_eq]; omega

set_option maxRecDepth 100000 in
set_option maxHeartbeats 1000000 in
theorem psec_walk (vn vp vc : Value) (s : Sc) (t : Int) (ht : 0 ≤ t ∧ t ≤ 100000) (hc : cadOk s) (w : World) (S : ScR w vn vp vc s) :
    Calls Tryz.prog 50 #[.agg #[.int .i64 s.voices, vn, vp, vc], .int .i64 t] w fun e w' => e = .returned (.int .i64 (secF s t)) ∧ Ext w w' := by
  obtain ⟨an, cn, rfl, -, -, hln⟩ := S.nt.len
  obtain ⟨ap, cp, rfl, -, -, hlp⟩ := S.pr.len
  obtain ⟨ac, cc, rfl, -, -, hlc⟩ := S.cd.len
  have HS := Lib.hid (cnt_sec s t)
  have BS := Lib.hid fun w' (x : Ext w w') => bsearch_walk _ s.cads (t + 1) hc.2 w' (S.cd.ext x)
  have E1 : IntKind.i64.wrap (t + 1) = t + 1 := IntWalk.i64_in _ (by omega)
  have X0 : Ext w (w.alloc (.cells #[.int .i64 s.voices, .slice an s.notes.length cn, .slice ap s.pairs.length cp, .slice ac s.cads.length cc] 26)) := (by repeat (first | with_reducible exact Ext.refl _ | with_reducible assumption | with_reducible apply Ext.alloc | with_reducible apply Ext.drew | (with_reducible refine Ext.setCell ?_ (by (try simp) <;> omega) _)))
  have b0_0 := block_new w (.cells #[.int .i64 s.voices, .slice an s.notes.length cn, .slice ap s.pairs.length cp, .slice ac s.cads.length cc] 26)
  obtain ⟨W0, hW0⟩ : ∃ W, (w.alloc (.cells #[.int .i64 s.voices, .slice an s.notes.length cn, .slice ap s.pairs.length cp, .slice ac s.cads.length cc] 26)) = W := ⟨_, rfl⟩
  obtain ⟨B0, hB0⟩ : ∃ B, w.heap.size = B := ⟨_, rfl⟩
  rw [hW0] at X0 b0_0
  rw [hB0] at b0_0
  have HZ0 : Hid (w.heap.size ≤ B0) := Lib.hid (by omega)
  have HW0 := Lib.hid hW0; have HB0 := Lib.hid hB0
  clear hW0 hB0
  have c3 := block_cell b0_0 3 _ rfl
  clear b0_0 hc S
  go_enter Tryz.func50, Tryz.ntmps50
  go_upto_region 1 with fail
  rw [HW0.out, HB0.out]
  clear HW0 HB0
  go_wp2_with fail
  refine (BS.out _ X0).mono ?_
  rw [HS.out]
  rintro e w1 ⟨rfl, x1⟩
  clear c3 E1
  go_wp2
  go_ret
  exact ⟨by first | rfl | simp, X0.trans x1⟩

set_option maxRecDepth 100000 in
set_option maxHeartbeats 2000000 in
theorem ppitch_walk (g u q : Nat) (vs : Int) (vn vp vc vx : Value) (len : Nat) (F : Nat → St) (G : Nat → V6) (xs : List V6) (n : Int) (hn : n < xs.length) (w : World) (T : TreeR w g u q vs vn vp vc len F G vx) (S : Sl w 6 V6.list vx xs) :
    Calls Tryz.prog 52 #[.pointer (some ⟨g, 0, none⟩), .int .i64 n] w fun e w' => e = .returned (.agg #[.int .i64 (pAt xs n).a, .int .i64 (pAt xs n).b, .int .i64 (pAt xs n).c, .int .i64 (pAt xs n).d, .int .i64 (pAt xs n).e, .int .i64 (pAt xs n).f]) ∧ Ext w w' := by
  obtain ⟨ax, cx, rfl, -, -, hlx⟩ := S.len
  have X0 : Ext w (w.alloc (.cells #[.int .i64 0, .int .i64 0, .int .i64 0, .int .i64 0, .int .i64 0, .int .i64 0] 32)) := (by repeat (first | with_reducible exact Ext.refl _ | with_reducible assumption | with_reducible apply Ext.alloc | with_reducible apply Ext.drew | (with_reducible refine Ext.setCell ?_ (by (try simp) <;> omega) _)))
  have b0_0 := block_new w (.cells #[.int .i64 0, .int .i64 0, .int .i64 0, .int .i64 0, .int .i64 0, .int .i64 0] 32)
  obtain ⟨W0, hW0⟩ : ∃ W, (w.alloc (.cells #[.int .i64 0, .int .i64 0, .int .i64 0, .int .i64 0, .int .i64 0, .int .i64 0] 32)) = W := ⟨_, rfl⟩
  obtain ⟨B0, hB0⟩ : ∃ B, w.heap.size = B := ⟨_, rfl⟩
  rw [hW0] at X0 b0_0
  rw [hB0] at b0_0
  have HZ0 : Hid (w.heap.size ≤ B0) := Lib.hid (by omega)
  have HW0 := Lib.hid hW0; have HB0 := Lib.hid hB0
  clear hW0 hB0
  have HRR := Lib.hid b0_0
  have ct := (T.ext X0).c6
  have SX := S.ext X0
  obtain ⟨r, hr⟩ : ∃ r, pAt xs n = r := ⟨_, rfl⟩
  have n2 := setRow_at b0_0 (#[.int .i64 r.a, .int .i64 r.b, .int .i64 r.c, .int .i64 r.d, .int .i64 r.e, .int .i64 r.f] : Array Value)
  have XX := X0.setRow (g := B0) (by have := HZ0.out; omega) (#[.int .i64 r.a, .int .i64 r.b, .int .i64 r.c, .int .i64 r.d, .int .i64 r.e, .int .i64 r.f] : Array Value)
  have e0 := block_cell n2 0 _ rfl; have e1 := block_cell n2 1 _ rfl; have e2 := block_cell n2 2 _ rfl; have e3 := block_cell n2 3 _ rfl; have e4 := block_cell n2 4 _ rfl; have e5 := block_cell n2 5 _ rfl
  rw [hr]
  have hRR := Lib.hid hr
  clear b0_0 n2 hr S T
  go_enter Tryz.func52, Tryz.ntmps52
  go_upto_region 1 with fail
  rw [HW0.out, HB0.out]
  clear HW0 HB0
  by_cases h0 : n < 0
  · obtain rfl : r = V6.zero := by rw [← hRR.out]; unfold pAt; rw [if_pos h0]
    have t1 : decide (n < 0) = true := decide_eq_true h0
    have n2 := setRow_at HRR.out #[.int .i64 0, .int .i64 0, .int .i64 0, .int .i64 0, .int .i64 0, .int .i64 0]
    have XX := X0.setRow (g := B0) (by have := HZ0.out; omega) #[.int .i64 0, .int .i64 0, .int .i64 0, .int .i64 0, .int .i64 0, .int .i64 0]
    have e0 := block_cell n2 0 _ rfl; have e1 := block_cell n2 1 _ rfl; have e2 := block_cell n2 2 _ rfl; have e3 := block_cell n2 3 _ rfl; have e4 := block_cell n2 4 _ rfl; have e5 := block_cell n2 5 _ rfl
    clear ct h0 n2
    go_wp2_with (first | (refine wpList_store_row rfl _ _ _ rfl B0 _ rfl rfl _ _ HRR.out (by kernel_rfl) rfl (by simp [Value.oneCell']) ?_) | fail)
    refine bodyPost_ret (v := .agg #[.int .i64 0, .int .i64 0, .int .i64 0, .int .i64 0, .int .i64 0, .int .i64 0]) (by simp [results, Tryz.results52, go_sem, e0, e1, e2, e3, e4, e5]) rfl ⟨rfl, XX⟩
  · obtain ⟨k, rfl⟩ : ∃ k : Nat, n = (k : Int) := ⟨n.toNat, by omega⟩
    have hk : k < xs.length := by omega
    obtain ⟨b, o, rfl, a0, a1, a2, a3, a4, a5⟩ := Sl.vec SX k hk
    have hxr : xs[k] = r := by
      rw [← hRR.out]; unfold pAt
      rw [if_neg (by omega), Int.toNat_natCast, List.getD_eq_getElem?_getD, List.getElem?_eq_getElem hk]; rfl
    rw [hxr] at a0 a1 a2 a3 a4 a5
    have t1 : decide ((k : Int) < 0) = false := decide_eq_false (by omega)
    have i1 : (0 : Int) ≤ (k : Int) := by omega
    have i2 : (k : Int) < (xs.length : Int) := by omega
    clear h0 hxr hRR
    go_wp2_with (first | (refine wpList_store_row rfl _ _ _ rfl B0 _ rfl rfl _ _ HRR.out (by kernel_rfl) rfl (by simp [Value.oneCell']) ?_) | fail)
    refine bodyPost_ret (v := .agg #[.int .i64 r.a, .int .i64 r.b, .int .i64 r.c, .int .i64 r.d, .int .i64 r.e, .int .i64 r.f]) (by simp [results, Tryz.results52, go_sem, e0, e1, e2, e3, e4, e5]) rfl ⟨rfl, XX⟩
end Go.Proofs.YtgfaiihekibcbaaGreatDoor

/-
  Walks: slices.IndexFunc and ContainsFunc with closures at integers and at intervals; potential.ranged.
-/
set_option linter.unusedVariables false
namespace Go.Proofs.YtgfaiihekibcbaaGreatDoor
open Go.RowKit Go.Sx Go.Sx.Sz Go.Sx.Sc Go.Sx.Po

def idxI : Option Nat → Int
  | some k => k
  | none => -1
theorem idx_hit {α : Type} {l : List α} {p : α → Bool} {k : Nat} (hlt : k < l.length) (h1 : p l[k] = true) (h2 : ∀ x ∈ l.take k, p x = false) : l.findIdx? p = some k := by
  rw [List.findIdx?_eq_some_iff_getElem]
  refine ⟨hlt, h1, fun j hj => ?_⟩
  have := h2 l[j] (List.mem_take_iff_getElem.2 ⟨j, by omega, rfl⟩)
  simpa using this
theorem idx_miss {α : Type} {l : List α} {p : α → Bool} (h2 : ∀ x ∈ l.take l.length, p x = false) : l.findIdx? p = none := by
  rw [List.findIdx?_eq_none_iff]
  rw [List.take_length] at h2
  exact h2
theorem take_next {α : Type} {l : List α} {p : α → Bool} {k : Nat} (hlt : k < l.length) (h1 : p l[k] = false) (h2 : ∀ x ∈ l.take k, p x = false) : ∀ x ∈ l.take (k + 1), p x = false := fun x hx => by
  rw [List.take_succ_eq_append_getElem hlt, List.mem_append, List.mem_singleton] at hx
  rcases hx with hx | rfl
  · exact h2 x hx
  · exact h1
theorem idx_any {α : Type} {l : List α} {p : α → Bool} : l.any p = decide (0 ≤ idxI (l.findIdx? p)) := by
  cases hf : l.findIdx? p with
  | none =>
    rw [show decide (0 ≤ idxI none) = false from rfl, List.any_eq_false]
    intro x hx
    have := (List.findIdx?_eq_none_iff.1 hf) x hx
    simp [this]
  | some j =>
    rw [show decide (0 ≤ idxI (some j)) = true from decide_eq_true (by show (0 : Int) ≤ (j : Int); omega)]
    obtain ⟨hj, hp, _⟩ := List.findIdx?_eq_some_iff_getElem.1 hf
    exact List.any_eq_true.2 ⟨_, List.getElem_mem hj, hp⟩
def inR32 (x : Int) : Bool := decide (-32 ≤ x) && decide (x ≤ 32)
theorem within32 (v : V6) : within v 32 = !([v.a, v.b, v.c, v.d, v.e, v.f].any fun x => !inR32 x) := by
  rw [Bool.eq_iff_iff, Sz.within_iff, Bool.not_eq_true', List.any_eq_false]
  unfold inR32
  constructor
  · intro h x hx
    have h0 := h 0 (by omega); have h1 := h 1 (by omega); have h2 := h 2 (by omega); have h3 := h 3 (by omega); have h4 := h 4 (by omega); have h5 := h 5 (by omega)
    change -32 ≤ v.a ∧ v.a ≤ 32 at h0; change -32 ≤ v.b ∧ v.b ≤ 32 at h1; change -32 ≤ v.c ∧ v.c ≤ 32 at h2; change -32 ≤ v.d ∧ v.d ≤ 32 at h3; change -32 ≤ v.e ∧ v.e ≤ 32 at h4; change -32 ≤ v.f ∧ v.f ≤ 32 at h5
    simp only [List.mem_cons, List.not_mem_nil, or_false] at hx
    have : -32 ≤ x ∧ x ≤ 32 := by rcases hx with rfl | rfl | rfl | rfl | rfl | rfl <;> assumption
    simp [this]
  · intro h k hk
    have hk' : v.get k ∈ [v.a, v.b, v.c, v.d, v.e, v.f] := by rcases lt6 hk with rfl | rfl | rfl | rfl | rfl | rfl <;> simp [V6.get]
    have := h _ hk'
    simpa using this

set_option maxRecDepth 100000 in
set_option maxHeartbeats 2000000 in
theorem idxN_walk (v : Value) (l : List Int) (fn : Nat) (p : Int → Bool) (w : World) (S : Sl w 1 encZ v l)
    (hen : ∀ args w, (callFunc fn args).run Tryz.prog w = .ok (.enter fn args) w)
    (hcall : ∀ x ∈ l, ∀ w', Ext w w' → Calls Tryz.prog fn #[.int .i64 x] w' fun e w'' => e = .returned (.bool (p x)) ∧ Ext w' w'') :
    Calls Tryz.prog 97 #[v, .func (.func fn) #[] #[]] w fun e w' => e = .returned (.int .i64 (idxI (l.findIdx? p))) ∧ Ext w w' := by
  obtain ⟨a?, cap, rfl, h1, h2, h3⟩ := S.len
  clear h1 h2
  have HC := Lib.hid hcall; clear hcall
  go_enter Tryz.func97, Tryz.ntmps97
  go_wp2
  go_loopw [8] (fun i wr => ∃ k : Nat, k ≤ l.length ∧ i = .int .i64 k ∧ (∀ x ∈ l.take k, p x = false) ∧ Ext w wr) (fun i _ => l.length - (intOf i).toNat)
  case atStart => exact ⟨0, by omega, by first | rfl | trivial, fun x hx => by simp at hx, Ext.refl _⟩
  case round =>
    obtain ⟨k, hk, rfl, hno, X⟩ := hrel
    have HN := Lib.hid hno; clear hno
    by_cases hlt : k < l.length
    · obtain ⟨b, o, rfl, q0⟩ := Sl.num (S.ext X) k hlt
      obtain ⟨y, hy⟩ : ∃ y, l[k] = y := ⟨_, rfl⟩
      rw [hy] at q0
      have HX := Lib.hid X
      have CY := HC.out y (by rw [← hy]; exact List.getElem_mem _) wr X
      have HY := Lib.hid hy
      have i1 : (0 : Int) ≤ (k : Int) := by omega
      have i2 : (k : Int) < (l.length : Int) := by omega
      clear hy S
      go_wp2_with fail
      refine CY.mono ?_
      cases hp : p y with
      | true =>
        have hf := idx_hit hlt (by rw [HY.out]; exact hp) HN.out
        have HF := Lib.hid hf
        clear hf hp
        rintro e w1 ⟨rfl, x1⟩
        have X1 := HX.out.trans x1
        clear q0
        go_wp2
        go_ret
        exact ⟨by rw [HF.out]; rfl, X1⟩
      | false =>
        have HT := Lib.hid (take_next hlt (by rw [HY.out]; exact hp) HN.out)
        clear hp
        rintro e w1 ⟨rfl, x1⟩
        have X1 := HX.out.trans x1
        clear q0
        go_wp2
        go_roundw
        case rel => exact ⟨k + 1, by omega, by go_num, HT.out, X1⟩
        case measure => simp [intOf]; omega
    · obtain rfl : k = l.length := by omega
      have HF := Lib.hid (idx_miss HN.out)
      clear S
      go_wp2
      go_ret
      exact ⟨by rw [HF.out]; rfl, X⟩

set_option maxRecDepth 100000 in
set_option maxHeartbeats 1000000 in
theorem hasN_walk (v : Value) (l : List Int) (fn : Nat) (p : Int → Bool) (w : World) (S : Sl w 1 encZ v l)
    (hen : ∀ args w, (callFunc fn args).run Tryz.prog w = .ok (.enter fn args) w)
    (hcall : ∀ x ∈ l, ∀ w', Ext w w' → Calls Tryz.prog fn #[.int .i64 x] w' fun e w'' => e = .returned (.bool (p x)) ∧ Ext w' w'') :
    Calls Tryz.prog 79 #[v, .func (.func fn) #[] #[]] w fun e w' => e = .returned (.bool (l.any p)) ∧ Ext w w' := by
  have HC := Lib.hid hcall; have HE := Lib.hid hen; clear hcall hen
  have HA := Lib.hid (idx_any (l := l) (p := p))
  have NX := Lib.hid (idxN_walk v l fn p w S HE.out HC.out)
  obtain ⟨j, hj⟩ : ∃ j, idxI (l.findIdx? p) = j := ⟨_, rfl⟩
  rw [hj] at HA NX
  clear hj
  go_enter Tryz.func79, Tryz.ntmps79
  go_wp2_with fail
  refine NX.out.mono ?_
  rintro e w1 ⟨rfl, x1⟩
  go_wp2
  go_ret
  exact ⟨by rw [HA.out] <;> rfl, x1⟩

set_option maxRecDepth 100000 in
set_option maxHeartbeats 2000000 in
theorem idxV_walk (v : Value) (l : List V6) (fn : Nat) (p : V6 → Bool) (w : World) (S : Sl w 6 V6.list v l)
    (hen : ∀ args w, (callFunc fn args).run Tryz.prog w = .ok (.enter fn args) w)
    (hcall : ∀ x ∈ l, ∀ w', Ext w w' → Calls Tryz.prog fn #[.agg #[.int .i64 x.a, .int .i64 x.b, .int .i64 x.c, .int .i64 x.d, .int .i64 x.e, .int .i64 x.f]] w' fun e w'' => e = .returned (.bool (p x)) ∧ Ext w' w'') :
    Calls Tryz.prog 76 #[v, .func (.func fn) #[] #[]] w fun e w' => e = .returned (.int .i64 (idxI (l.findIdx? p))) ∧ Ext w w' := by
  obtain ⟨a?, cap, rfl, h1, h2, h3⟩ := S.len
  clear h1 h2
  have HC := Lib.hid hcall; clear hcall
  go_enter Tryz.func76, Tryz.ntmps76
  go_wp2
  go_loopw [8] (fun i wr => ∃ k : Nat, k ≤ l.length ∧ i = .int .i64 k ∧ (∀ x ∈ l.take k, p x = false) ∧ Ext w wr) (fun i _ => l.length - (intOf i).toNat)
  case atStart => exact ⟨0, by omega, by first | rfl | trivial, fun x hx => by simp at hx, Ext.refl _⟩
  case round =>
    obtain ⟨k, hk, rfl, hno, X⟩ := hrel
    have HN := Lib.hid hno; clear hno
    by_cases hlt : k < l.length
    · obtain ⟨b, o, rfl, q0, q1, q2, q3, q4, q5⟩ := Sl.vec (S.ext X) k hlt
      obtain ⟨y, hy⟩ : ∃ y, l[k] = y := ⟨_, rfl⟩
      rw [hy] at q0 q1 q2 q3 q4 q5
      have HX := Lib.hid X
      have CY := HC.out y (by rw [← hy]; exact List.getElem_mem _) wr X
      have HY := Lib.hid hy
      have i1 : (0 : Int) ≤ (k : Int) := by omega
      have i2 : (k : Int) < (l.length : Int) := by omega
      clear hy S
      go_wp2_with fail
      refine CY.mono ?_
      cases hp : p y with
      | true =>
        have hf := idx_hit hlt (by rw [HY.out]; exact hp) HN.out
        have HF := Lib.hid hf
        clear hf hp
        rintro e w1 ⟨rfl, x1⟩
        have X1 := HX.out.trans x1
        clear q0 q1 q2 q3 q4 q5
        go_wp2
        go_ret
        exact ⟨by rw [HF.out]; rfl, X1⟩
      | false =>
        have HT := Lib.hid (take_next hlt (by rw [HY.out]; exact hp) HN.out)
        clear hp
        rintro e w1 ⟨rfl, x1⟩
        have X1 := HX.out.trans x1
        clear q0 q1 q2 q3 q4 q5
        go_wp2
        go_roundw
        case rel => exact ⟨k + 1, by omega, by go_num, HT.out, X1⟩
        case measure => simp [intOf]; omega
    · obtain rfl : k = l.length := by omega
      have HF := Lib.hid (idx_miss HN.out)
      clear S
      go_wp2
      go_ret
      exact ⟨by rw [HF.out]; rfl, X⟩

set_option maxRecDepth 100000 in
set_option maxHeartbeats 1000000 in
theorem hasV_walk (v : Value) (l : List V6) (fn : Nat) (p : V6 → Bool) (w : World) (S : Sl w 6 V6.list v l)
    (hen : ∀ args w, (callFunc fn args).run Tryz.prog w = .ok (.enter fn args) w)
    (hcall : ∀ x ∈ l, ∀ w', Ext w w' → Calls Tryz.prog fn #[.agg #[.int .i64 x.a, .int .i64 x.b, .int .i64 x.c, .int .i64 x.d, .int .i64 x.e, .int .i64 x.f]] w' fun e w'' => e = .returned (.bool (p x)) ∧ Ext w' w'') :
    Calls Tryz.prog 47 #[v, .func (.func fn) #[] #[]] w fun e w' => e = .returned (.bool (l.any p)) ∧ Ext w w' := by
  have HC := Lib.hid hcall; have HE := Lib.hid hen; clear hcall hen
  have HA := Lib.hid (idx_any (l := l) (p := p))
  have NX := Lib.hid (idxV_walk v l fn p w S HE.out HC.out)
  obtain ⟨j, hj⟩ : ∃ j, idxI (l.findIdx? p) = j := ⟨_, rfl⟩
  rw [hj] at HA NX
  clear hj
  go_enter Tryz.func47, Tryz.ntmps47
  go_wp2_with fail
  refine NX.out.mono ?_
  rintro e w1 ⟨rfl, x1⟩
  go_wp2
  go_ret
  exact ⟨by rw [HA.out] <;> rfl, x1⟩
set_option maxRecDepth 100000 in
set_option maxHeartbeats 1000000 in
theorem rgd1_walk (x : Int) (w : World) : Calls Tryz.prog 80 #[.int .i64 x] w fun e w' => e = .returned (.bool (!inR32 x)) ∧ Ext w w' := by
  by_cases h1 : x < -32
  · have t1 : decide (x < -32) = true := decide_eq_true h1
    have HR : Hid (inR32 x = false) := Lib.hid (by unfold inR32; rw [decide_eq_false (by omega)]; rfl)
    clear h1
    go_enter Tryz.func80, Tryz.ntmps80
    go_wp2
    go_ret
    exact ⟨by rw [HR.out] <;> rfl, Ext.refl _⟩
  · have t1 : decide (x < -32) = false := decide_eq_false h1
    by_cases h2 : x ≤ 32
    · have t2 : decide (32 < x) = false := decide_eq_false (by omega)
      have HR : Hid (inR32 x = true) := Lib.hid (by unfold inR32; rw [decide_eq_true (by omega), decide_eq_true h2]; rfl)
      clear h1 h2
      go_enter Tryz.func80, Tryz.ntmps80
      go_wp2
      go_ret
      exact ⟨by rw [HR.out] <;> rfl, Ext.refl _⟩
    · have t2 : decide (32 < x) = true := decide_eq_true (by omega)
      have HR : Hid (inR32 x = false) := Lib.hid (by unfold inR32; rw [decide_eq_false h2, Bool.and_false])
      clear h1 h2
      go_enter Tryz.func80, Tryz.ntmps80
      go_wp2
      go_ret
      exact ⟨by rw [HR.out] <;> rfl, Ext.refl _⟩

set_option maxRecDepth 100000 in
set_option maxHeartbeats 2000000 in
theorem ranged_walk (v : V6) (w : World) : Calls Tryz.prog 53 #[.agg #[.int .i64 v.a, .int .i64 v.b, .int .i64 v.c, .int .i64 v.d, .int .i64 v.e, .int .i64 v.f]] w fun e w' => e = .returned (.bool (within v 32)) ∧ Ext w w' := by
  have X0 : Ext w (w.alloc (.cells (#[.int .i64 v.a, .int .i64 v.b, .int .i64 v.c, .int .i64 v.d, .int .i64 v.e, .int .i64 v.f] : Array Value) 32)) := (by repeat (first | with_reducible exact Ext.refl _ | with_reducible assumption | with_reducible apply Ext.alloc | with_reducible apply Ext.drew | (with_reducible refine Ext.setCell ?_ (by (try simp) <;> omega) _)))
  have b0_0 := block_new w (.cells (#[.int .i64 v.a, .int .i64 v.b, .int .i64 v.c, .int .i64 v.d, .int .i64 v.e, .int .i64 v.f] : Array Value) 32)
  obtain ⟨W0, hW0⟩ : ∃ W, (w.alloc (.cells (#[.int .i64 v.a, .int .i64 v.b, .int .i64 v.c, .int .i64 v.d, .int .i64 v.e, .int .i64 v.f] : Array Value) 32)) = W := ⟨_, rfl⟩
  obtain ⟨B0, hB0⟩ : ∃ B, w.heap.size = B := ⟨_, rfl⟩
  rw [hW0] at X0 b0_0
  rw [hB0] at b0_0
  have HZ0 : Hid (w.heap.size ≤ B0) := Lib.hid (by omega)
  have HW0 := Lib.hid hW0; have HB0 := Lib.hid hB0
  clear hW0 hB0
  have HW := Lib.hid (within32 v)
  have SL : Sl W0 1 encZ (.slice (some ⟨B0, 0, none⟩) 6 6) [v.a, v.b, v.c, v.d, v.e, v.f] := Bk.sl (e := 32) (enc := encZ) (sz := 1) (xs := [v.a, v.b, v.c, v.d, v.e, v.f]) ⟨_, b0_0, rfl⟩ (fun _ _ => rfl) rfl (by simp)
  have NX := Lib.hid (hasN_walk _ _ 80 (fun x => !inR32 x) W0 SL (enters_of Tryz.func80 (by kernel_rfl) rfl) (fun x _ w' _ => rgd1_walk x w'))
  obtain ⟨r, hr⟩ : ∃ r, ([v.a, v.b, v.c, v.d, v.e, v.f].any fun x => !inR32 x) = r := ⟨_, rfl⟩
  rw [hr] at HW NX
  clear b0_0 SL hr
  go_enter Tryz.func53, Tryz.ntmps53
  go_wp2_with fail
  rw [HW0.out, HB0.out]
  clear HW0 HB0
  refine NX.out.mono ?_
  rintro e w1 ⟨rfl, x1⟩
  go_wp2
  go_ret
  exact ⟨by rw [HW.out] <;> rfl, X0.trans x1⟩
end Go.Proofs.YtgfaiihekibcbaaGreatDoor

/-
  Walks of potential: exceeds.
-/
set_option linter.unusedVariables false
namespace Go.Proofs.YtgfaiihekibcbaaGreatDoor
open Go.RowKit Go.Sx Go.Sx.Sz Go.Sx.Sc Go.Sx.Po

set_option maxRecDepth 100000 in
set_option maxHeartbeats 4000000 in
theorem exc_walk (g u q : Nat) (vs : Int) (vn vp vc vx : Value) (len : Nat) (F : Nat → St) (G : Nat → V6) (xs : List V6) (p : Pr) (a b : Nat) (hpa : p.a = a) (hpb : p.b = b) (ha : a < xs.length) (hb : b < xs.length) (h1 : Sml 32 xs[a]) (h2 : Sml 32 xs[b]) (h3 : Sml 16 p.want) (w : World) (T : TreeR w g u q vs vn vp vc len F G vx) (S : Sl w 6 V6.list vx xs) :
    Calls Tryz.prog 25 #[.pointer (some ⟨g, 0, none⟩), .agg #[.int .i64 p.a, .int .i64 p.b, .int .i64 p.want.a, .int .i64 p.want.b, .int .i64 p.want.c, .int .i64 p.want.d, .int .i64 p.want.e, .int .i64 p.want.f, .int .i64 p.bound]] w fun e w' => e = .returned (.agg #[.int .i64 ((xs[b].add xs[a] (-1)).add p.want (-1)).a, .int .i64 ((xs[b].add xs[a] (-1)).add p.want (-1)).b, .int .i64 ((xs[b].add xs[a] (-1)).add p.want (-1)).c, .int .i64 ((xs[b].add xs[a] (-1)).add p.want (-1)).d, .int .i64 ((xs[b].add xs[a] (-1)).add p.want (-1)).e, .int .i64 ((xs[b].add xs[a] (-1)).add p.want (-1)).f]) ∧ Ext w w' := by
  obtain ⟨ax, cx, rfl, -, -, hlx⟩ := S.len
  obtain ⟨x, hx⟩ : ∃ x, xs[a] = x := ⟨_, rfl⟩
  obtain ⟨y, hy⟩ : ∃ y, xs[b] = y := ⟨_, rfl⟩
  obtain ⟨d, hd⟩ : ∃ d, y.add x (-1) = d := ⟨_, rfl⟩
  obtain ⟨r, hr⟩ : ∃ r, d.add p.want (-1) = r := ⟨_, rfl⟩
  rw [hx] at h1; rw [hy] at h2
  have h4 : Sml 64 d := by rw [← hd]; exact Sml.add (M := 32) (N := 32) h2 h1 (.inr rfl)
  have AW := Lib.hid fun w' => padd_walk y x (-1) (.inr rfl) (h2.mono (by omega)) (h1.mono (by omega)) w'
  have DW := Lib.hid fun w' => padd_walk d p.want (-1) (.inr rfl) (h4.mono (by omega)) (h3.mono (by omega)) w'
  rw [hd] at AW; rw [hr] at DW
  rw [hx, hy, hd, hr]
  have X0 : Ext w ((w.alloc (.cells #[.int .i64 p.a, .int .i64 p.b, .int .i64 p.want.a, .int .i64 p.want.b, .int .i64 p.want.c, .int .i64 p.want.d, .int .i64 p.want.e, .int .i64 p.want.f, .int .i64 p.bound] 48)).alloc (.cells #[.int .i64 0, .int .i64 0, .int .i64 0, .int .i64 0, .int .i64 0, .int .i64 0] 32)) := (by repeat (first | with_reducible exact Ext.refl _ | with_reducible assumption | with_reducible apply Ext.alloc | with_reducible apply Ext.drew | (with_reducible refine Ext.setCell ?_ (by (try simp) <;> omega) _)))
  have b0_0 := block_alloc (block_new w (.cells #[.int .i64 p.a, .int .i64 p.b, .int .i64 p.want.a, .int .i64 p.want.b, .int .i64 p.want.c, .int .i64 p.want.d, .int .i64 p.want.e, .int .i64 p.want.f, .int .i64 p.bound] 48)) (.cells #[.int .i64 0, .int .i64 0, .int .i64 0, .int .i64 0, .int .i64 0, .int .i64 0] 32)
  have b0_1 := block_at (w := (w.alloc (.cells #[.int .i64 p.a, .int .i64 p.b, .int .i64 p.want.a, .int .i64 p.want.b, .int .i64 p.want.c, .int .i64 p.want.d, .int .i64 p.want.e, .int .i64 p.want.f, .int .i64 p.bound] 48))) (n := w.heap.size + 1) (by simp) (.cells #[.int .i64 0, .int .i64 0, .int .i64 0, .int .i64 0, .int .i64 0, .int .i64 0] 32)
  obtain ⟨W0, hW0⟩ : ∃ W, ((w.alloc (.cells #[.int .i64 p.a, .int .i64 p.b, .int .i64 p.want.a, .int .i64 p.want.b, .int .i64 p.want.c, .int .i64 p.want.d, .int .i64 p.want.e, .int .i64 p.want.f, .int .i64 p.bound] 48)).alloc (.cells #[.int .i64 0, .int .i64 0, .int .i64 0, .int .i64 0, .int .i64 0, .int .i64 0] 32)) = W := ⟨_, rfl⟩
  obtain ⟨B0, hB0⟩ : ∃ B, w.heap.size = B := ⟨_, rfl⟩
  rw [hW0] at X0 b0_0 b0_1
  rw [hB0] at b0_0 b0_1
  have HZ0 : Hid (w.heap.size ≤ B0) := Lib.hid (by omega)
  have HW0 := Lib.hid hW0; have HB0 := Lib.hid hB0
  clear hW0 hB0
  have T1 := T.ext X0; have S1 := S.ext X0
  obtain ⟨bx, ox, e1, a0, a1, a2, a3, a4, a5⟩ := Sl.vec S1 a ha
  subst e1
  obtain ⟨bx', ox', e1, b0, b1, b2, b3, b4, b5⟩ := Sl.vec S1 b hb
  obtain ⟨rfl, rfl⟩ : bx = bx' ∧ ox = ox' := by simpa using e1
  rw [hx] at a0 a1 a2 a3 a4 a5
  rw [hy] at b0 b1 b2 b3 b4 b5
  have f6 := ext_cells T1.c6
  have m0 := ext_cells a0; have m1 := ext_cells a1; have m2 := ext_cells a2; have m3 := ext_cells a3; have m4 := ext_cells a4; have m5 := ext_cells a5
  have k0 := ext_cells b0; have k1 := ext_cells b1; have k2 := ext_cells b2; have k3 := ext_cells b3; have k4 := ext_cells b4; have k5 := ext_cells b5
  have p0 := ext_cells (block_cell b0_0 0 (.int .i64 a) (by rw [← hpa]; rfl)); have p1 := ext_cells (block_cell b0_0 1 (.int .i64 b) (by rw [← hpb]; rfl))
  have p2 := ext_cells (block_cell b0_0 2 _ rfl); have p3 := ext_cells (block_cell b0_0 3 _ rfl); have p4 := ext_cells (block_cell b0_0 4 _ rfl); have p5 := ext_cells (block_cell b0_0 5 _ rfl); have p6 := ext_cells (block_cell b0_0 6 _ rfl); have p7 := ext_cells (block_cell b0_0 7 _ rfl)
  have HRR := Lib.hid b0_1
  have i1 : (0 : Int) ≤ (a : Int) := by omega
  have i2 : (a : Int) < (xs.length : Int) := by omega
  have i3 : (0 : Int) ≤ (b : Int) := by omega
  have i4 : (b : Int) < (xs.length : Int) := by omega
  clear b0_0 b0_1 T T1 S S1 a0 a1 a2 a3 a4 a5 b0 b1 b2 b3 b4 b5 e1 h1 h2 h3 h4 hx hy hd hr hpa hpb
  go_enter Tryz.func25, Tryz.ntmps25
  go_upto_region 1 with fail
  rw [HW0.out, HB0.out]
  clear HW0 HB0
  refine wp_region_ord [(0,true), (1,true), (2,true), (3,true), (4,true), (5,true), (6,true), (7,true), (8,true), (9,true), (10,true), (11,true), (12,true), (13,true), (14,true), (15,true), (16,true), (17,true), (18,true), (19,true)] 20 Ext (Ext W0) wide (by kernel_rfl) (stable_ext _) (Ext.drawn _ _) ?_
  iterate 16 (first | (apply wpOrd_no rfl; rfl; (simp only [List.getElem_toArray, List.getElem_cons_succ, List.getElem_cons_zero, Act.put, List.setIfInBounds_toArray, List.set_cons_succ, List.set_cons_zero]; rfl)) | (apply wpOrd_yes rfl; rfl; (intro w' hw'; unfold opR; go_simp; exact ⟨Ext.refl _, rfl⟩); (simp only [List.getElem_toArray, List.getElem_cons_succ, List.getElem_cons_zero, Act.put, List.setIfInBounds_toArray, List.set_cons_succ, List.set_cons_zero]; rfl)))
  (apply wpOrd_det rfl rfl; (intro w' hw'; refine opR_call rfl (Go.Proofs.enters_of Tryz.func51 (by kernel_rfl) rfl) (by simp only [List.map_toArray, List.map_cons, List.map_nil, Act.eval, Array.getD_eq_getD_getElem?, List.getElem?_toArray, List.getElem?_cons_succ, List.getElem?_cons_zero, Option.getD_some]; rfl) ?_; refine (AW.out _).mono ?_; rintro e w'' ⟨rfl, hx⟩; exact ⟨_, rfl, hx, rfl⟩); (simp only [List.getElem_toArray, List.getElem_cons_succ, List.getElem_cons_zero, Act.put, List.setIfInBounds_toArray, List.set_cons_succ, List.set_cons_zero]; rfl))
  iterate 2 (first | (apply wpOrd_no rfl; rfl; (simp only [List.getElem_toArray, List.getElem_cons_succ, List.getElem_cons_zero, Act.put, List.setIfInBounds_toArray, List.set_cons_succ, List.set_cons_zero]; rfl)) | (apply wpOrd_yes rfl; rfl; (intro w' hw'; unfold opR; go_simp; exact ⟨Ext.refl _, rfl⟩); (simp only [List.getElem_toArray, List.getElem_cons_succ, List.getElem_cons_zero, Act.put, List.setIfInBounds_toArray, List.set_cons_succ, List.set_cons_zero]; rfl)))
  (apply wpOrd_det rfl rfl; (intro w' hw'; refine opR_call rfl (Go.Proofs.enters_of Tryz.func51 (by kernel_rfl) rfl) (by simp only [List.map_toArray, List.map_cons, List.map_nil, Act.eval, Array.getD_eq_getD_getElem?, List.getElem?_toArray, List.getElem?_cons_succ, List.getElem?_cons_zero, Option.getD_some]; rfl) ?_; refine (DW.out _).mono ?_; rintro e w'' ⟨rfl, hx⟩; exact ⟨_, rfl, hx, rfl⟩); (simp only [List.getElem_toArray, List.getElem_cons_succ, List.getElem_cons_zero, Act.put, List.setIfInBounds_toArray, List.set_cons_succ, List.set_cons_zero]; rfl))
  refine wpOrd_nil rfl ?_
  intro w1 x1
  have hRR := block_ext x1 HRR.out
  have n2 := setRow_at hRR (#[.int .i64 r.a, .int .i64 r.b, .int .i64 r.c, .int .i64 r.d, .int .i64 r.e, .int .i64 r.f] : Array Value)
  have XX := (X0.trans x1).setRow (g := B0 + 1) (by have := HZ0.out; omega) (#[.int .i64 r.a, .int .i64 r.b, .int .i64 r.c, .int .i64 r.d, .int .i64 r.e, .int .i64 r.f] : Array Value)
  have e0 := block_cell n2 0 _ rfl; have e1 := block_cell n2 1 _ rfl; have e2 := block_cell n2 2 _ rfl; have e3 := block_cell n2 3 _ rfl; have e4 := block_cell n2 4 _ rfl; have e5 := block_cell n2 5 _ rfl
  have HR2 := Lib.hid hRR
  clear hRR n2 f6 m0 m1 m2 m3 m4 m5 k0 k1 k2 k3 k4 k5 p0 p1 p2 p3 p4 p5 p6 p7
  refine wpList_store_row rfl _ _ _ rfl (B0 + 1) _ rfl rfl _ _ HR2.out (by kernel_rfl) rfl (by simp [Value.oneCell']) ?_
  go_wp2
  refine bodyPost_ret (v := .agg #[.int .i64 r.a, .int .i64 r.b, .int .i64 r.c, .int .i64 r.d, .int .i64 r.e, .int .i64 r.f]) (by simp [results, Tryz.results25, go_sem, e0, e1, e2, e3, e4, e5]) rfl ⟨rfl, XX⟩
end Go.Proofs.YtgfaiihekibcbaaGreatDoor
