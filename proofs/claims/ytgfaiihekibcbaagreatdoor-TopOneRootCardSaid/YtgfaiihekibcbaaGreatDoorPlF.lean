/-
  Walks of potential: tuned.
-/
import Derived.Test.YtgfaiihekibcbaaGreatDoorPlB
import Derived.Test.YtgfaiihekibcbaaGreatDoorLibV
import Derived.Test.YtgfaiihekibcbaaGreatDoorLibC
set_option linter.unusedVariables false
namespace Go.Sx.Po
open Go.Sx.Sz Go.Sx.Sc
theorem sml_want {s : Sc} (h : ScOk s) {n : Nat} : Sml 48 (wantF s n) := by
  unfold wantF
  split
  · exact Sml.zero (by omega)
  · cases hp : purF s n with
    | none => exact Sml.zero (by omega)
    | some p =>
      have := pair_mem h (pur_some hp).1
      unfold pairOk at this
      exact (Sml.of this.2.2.1).mono (by omega)
theorem sml_hF {h : List V6} (hw : ∀ x ∈ h, within x 48 = true) (k : Nat) : Sml 48 (hF h k) := by
  unfold hF
  rw [List.getD_eq_getElem?_getD]
  cases hk : h[k]? with
  | none => exact Sml.zero (by omega)
  | some x => exact Sml.of (hw x (List.mem_of_getElem? hk))
theorem sml_prod {s : Sc} (hs : ScOk s) {h : List V6} (hw : ∀ x ∈ h, within x 48 = true) {n : Nat} (hn : n < s.notes.length) : Sml 72 (prodF s h n) := by
  unfold prodF
  split
  · have a := Sml.of (hs.nt.note hn).2.2.2
    exact Sml.add (M := 24) (N := 48) a (sml_hF hw _) (.inl rfl)
  · exact (sml_want hs).mono (by omega)
theorem sml_pAt {xs : List V6} (ha : allB xs = true) (i : Int) : Sml 32 (pAt xs i) := by
  unfold pAt
  split
  · exact Sml.zero (by omega)
  · rw [List.getD_eq_getElem?_getD]
    cases hk : xs[i.toNat]? with
    | none => exact Sml.zero (by omega)
    | some x =>
      unfold allB at ha
      rw [List.all_eq_true] at ha
      exact Sml.of (ha x (List.mem_of_getElem? hk))
def prodG (s : Sc) (h : List V6) (k i : Nat) : V6 := if i < k then prodF s h i else wantF s i
theorem prodG_zero (s : Sc) (h : List V6) (i : Nat) : prodG s h 0 i = wantF s i := if_neg (Nat.not_lt_zero i)
theorem prodG_at (s : Sc) (h : List V6) {k i : Nat} (hi : i < k) : prodG s h k i = prodF s h i := if_pos hi
theorem prodG_yes (s : Sc) (h : List V6) (k : Nat) (hk : (upF s k).k = 3) (i : Nat) : prodG s h (k + 1) i = if i = k then (s.N k).x.add (hF h (secF s (s.N k).f)) 1 else prodG s h k i := by
  unfold prodG
  by_cases e : i = k
  · subst e
    rw [if_pos (by omega), if_pos rfl]
    unfold prodF; rw [if_pos hk]
  · rw [if_neg e]
    by_cases h2 : i < k
    · rw [if_pos (by omega), if_pos h2]
    · rw [if_neg (by omega), if_neg h2]
theorem prodG_no (s : Sc) (h : List V6) (k : Nat) (hk : (upF s k).k ≠ 3) (i : Nat) : prodG s h (k + 1) i = prodG s h k i := by
  unfold prodG
  by_cases e : i = k
  · subst e
    rw [if_pos (by omega), if_neg (by omega)]
    unfold prodF; rw [if_neg hk]
  · by_cases h2 : i < k
    · rw [if_pos (by omega), if_pos h2]
    · rw [if_neg (by omega), if_neg h2]
theorem tun_at {s : Sc} (hs : ntOk s) {m k : Nat} (hk : k ≤ s.notes.length) (h1 : ∀ j, j < k → secF s (s.N j).f < m) (h2 : k < s.notes.length → ¬ secF s (s.N k).f < m) : tunN s m = k := by
  have hle := tun_le s m
  rcases Nat.lt_trichotomy (tunN s m) k with h | h | h
  · have := (tun_iff hs m (n := tunN s m) (by omega)).2 (h1 _ h)
    omega
  · exact h
  · exact absurd ((tun_iff hs m (n := k) (by omega)).1 h) (h2 (by omega))
/-- What 'tuned' finds. -/
theorem tune_bad {s : Sc} {h : List V6} (hb : tunB s h = false) : tuneR s h = ([], 1) := by unfold tuneR; rw [hb]; rfl
theorem tune_yes {s : Sc} {h : List V6} {k : Nat} (hb : tunB s h = true) (hk : tunN s h.length = k) (ha : allB (xsL s h k) = true) : tuneR s h = (xsL s h k, 0) := by
  unfold tuneR; rw [if_pos hb, hk, if_pos ha]
theorem tune_out {s : Sc} {h : List V6} {k : Nat} (hb : tunB s h = true) (hk : k < tunN s h.length) (hw : within ((pAt (xsL s h k) (upF s k).a).add (prodF s h k) 1) 32 = false) : tuneR s h = ([], 3) := by
  have ha : allB (xsL s h (tunN s h.length)) = false := by
    cases hc : allB (xsL s h (tunN s h.length)) with
    | false => rfl
    | true =>
      rw [xsL_pre h (show k + 1 ≤ tunN s h.length by omega)] at hc
      have h1 := all_pre hc
      unfold allB at h1
      rw [xsL, List.all_append, Bool.and_eq_true] at h1
      have h2 := h1.2
      rw [List.all_cons, hw] at h2
      cases h2
  unfold tuneR; rw [if_pos hb, ha]; rfl
theorem all_next {s : Sc} {h : List V6} {k : Nat} (ha : allB (xsL s h k) = true) (hw : within ((pAt (xsL s h k) (upF s k).a).add (prodF s h k) 1) 32 = true) : allB (xsL s h (k + 1)) = true := by
  unfold allB at *
  rw [xsL, List.all_append, ha, List.all_cons, hw]; rfl
end Go.Sx.Po
namespace Go.Proofs.YtgfaiihekibcbaaGreatDoor
open Go.RowKit Go.Sx Go.Sx.Sz Go.Sx.Sc Go.Sx.Po

set_option maxRecDepth 100000 in
set_option maxHeartbeats 1000000 in
theorem tun1_walk (v : V6) (w : World) : Calls Tryz.prog 48 #[.agg #[.int .i64 v.a, .int .i64 v.b, .int .i64 v.c, .int .i64 v.d, .int .i64 v.e, .int .i64 v.f]] w fun e w' => e = .returned (.bool (!within v 48)) ∧ Ext w w' := by
  have X0 : Ext w (w.alloc (.cells (#[.int .i64 v.a, .int .i64 v.b, .int .i64 v.c, .int .i64 v.d, .int .i64 v.e, .int .i64 v.f] : Array Value) 32)) := (by repeat (first | with_reducible exact Ext.refl _ | with_reducible assumption | with_reducible apply Ext.alloc | with_reducible apply Ext.drew | (with_reducible refine Ext.setCell ?_ (by (try simp) <;> omega) _)))
  have b0_0 := block_new w (.cells (#[.int .i64 v.a, .int .i64 v.b, .int .i64 v.c, .int .i64 v.d, .int .i64 v.e, .int .i64 v.f] : Array Value) 32)
  obtain ⟨W0, hW0⟩ : ∃ W, (w.alloc (.cells (#[.int .i64 v.a, .int .i64 v.b, .int .i64 v.c, .int .i64 v.d, .int .i64 v.e, .int .i64 v.f] : Array Value) 32)) = W := ⟨_, rfl⟩
  obtain ⟨B0, hB0⟩ : ∃ B, w.heap.size = B := ⟨_, rfl⟩
  rw [hW0] at X0 b0_0
  rw [hB0] at b0_0
  have HZ0 : Hid (w.heap.size ≤ B0) := Lib.hid (by omega)
  have HW0 := Lib.hid hW0; have HB0 := Lib.hid hB0
  clear hW0 hB0
  have c0 := (block_rules b0_0).1
  obtain ⟨r, hr⟩ : ∃ r, within v 48 = r := ⟨_, rfl⟩
  have HR := Lib.hid hr
  rw [hr]
  clear b0_0 hr
  go_enter Tryz.func48, Tryz.ntmps48
  go_upto_region 1 with fail
  rw [HW0.out, HB0.out]
  clear HW0 HB0
  go_wp2_with fail
  refine (interval_walk v _).mono ?_
  rw [HR.out]
  rintro e w1 ⟨rfl, x1⟩
  clear c0
  go_wp2
  go_ret
  exact ⟨by first | rfl | simp, X0.trans x1⟩

theorem OwnR.same {α : Type} {w w' : World} {B : Nat} {e : TypeId} {sz : Nat} {enc : α → List Value} {v : Value} {xs : List α} (h : OwnR w B e sz enc v xs) (hk : ∀ b, v.ownBlock = some b → w'.heap[b]? = w.heap[b]?) : OwnR w' B e sz enc v xs := by
  obtain ⟨h1, h2⟩ := h
  exact ⟨h1, h2.imp id fun ⟨k, cap, cur, a, b, c, d⟩ => ⟨k, cap, cur, a, b, (hk k (by rw [a]; rfl)).trans c, d⟩⟩
theorem TreeR.putX {w : World} {g u q : Nat} {vs : Int} {vn vp vc vx : Value} {n : Nat} {F : Nat → St} {G : Nat → V6} (h : TreeR w g u q vs vn vp vc n F G vx) (v : Value) : TreeR (w.setCell ⟨g, 6, none⟩ v) g u q vs vn vp vc n F G v := by
  obtain ⟨n1, n2, n3⟩ := h.ne
  exact ⟨block_set h.tb 6 v, h.up.ne ⟨g, 6, none⟩ v n1, h.pr.ne ⟨g, 6, none⟩ v n2⟩
theorem Keeps.trans {B sz : Nat} {a b c : World} (h : Keeps B sz a b) (k : Keeps B sz b c) : Keeps B sz a c :=
  ⟨k.os.trans h.os, k.tape.trans h.tape, k.output.trans h.output, Nat.le_trans h.size k.size, fun i hi hl => (k.low i hi (Nat.lt_of_lt_of_le hl h.size)).trans (h.low i hi hl), fun i cs e fz hc hs => k.small _ _ _ _ (h.small _ _ _ _ hc hs) hs⟩
theorem et_xs : ET Tryz.prog 27 32 6 48 := .mk' (z := .agg #[.int .i64 0, .int .i64 0, .int .i64 0, .int .i64 0, .int .i64 0, .int .i64 0]) Tryz.underlying27 (by kernel_rfl) rfl (by decide) (by decide)

set_option maxRecDepth 100000 in
set_option maxHeartbeats 16000000 in
theorem tuned_walk (vn vp vc vh : Value) (s : Sc) (h : List V6) (w : World) (S : ScR w vn vp vc s) (V : Sl w 6 V6.list vh h) :
    Calls Tryz.prog 22 #[.agg #[.int .i64 s.voices, vn, vp, vc], vh] w fun e w' => Ext w w' ∧
      (((tuneR s h).2 ≠ 0 ∧ e = .returned (.tuple #[.pointer none, .int .i64 (tuneR s h).2])) ∨
      (tuneR s h = (xsL s h (tunN s h.length), 0) ∧ ∃ (g u q : Nat) (vx : Value), e = .returned (.tuple #[.pointer (some ⟨g, 0, none⟩), .int .i64 0]) ∧ w.heap.size ≤ g ∧ w.heap.size ≤ u ∧ w.heap.size ≤ q ∧ TreeR w' g u q s.voices vn vp vc s.notes.length (upF s) (prodG s h (tunN s h.length)) vx ∧ OwnR w' w.heap.size 32 6 V6.list vx (xsL s h (tunN s h.length)))) := by
  obtain ⟨an, cn, rfl, -, -, hln⟩ := S.nt.len
  obtain ⟨ap, cp, rfl, -, -, hlp⟩ := S.pr.len
  obtain ⟨ac, cc, rfl, -, -, hlc⟩ := S.cd.len
  obtain ⟨ah, ch, rfl, -, -, hlh⟩ := V.len
  have X0 : Ext w (w.alloc (.cells #[.int .i64 s.voices, .slice an s.notes.length cn, .slice ap s.pairs.length cp, .slice ac s.cads.length cc] 26)) := (by repeat (first | with_reducible exact Ext.refl _ | with_reducible assumption | with_reducible apply Ext.alloc | with_reducible apply Ext.drew | (with_reducible refine Ext.setCell ?_ (by (try simp) <;> omega) _)))
  have b0_0 := block_new w (.cells #[.int .i64 s.voices, .slice an s.notes.length cn, .slice ap s.pairs.length cp, .slice ac s.cads.length cc] 26)
  obtain ⟨W0, hW0⟩ : ∃ W, (w.alloc (.cells #[.int .i64 s.voices, .slice an s.notes.length cn, .slice ap s.pairs.length cp, .slice ac s.cads.length cc] 26)) = W := ⟨_, rfl⟩
  obtain ⟨B0, hB0⟩ : ∃ B, w.heap.size = B := ⟨_, rfl⟩
  rw [hW0] at X0 b0_0
  rw [hB0] at b0_0
  have HZ0 : Hid (w.heap.size ≤ B0) := Lib.hid (by omega)
  have HW0 := Lib.hid hW0; have HB0 := Lib.hid hB0
  clear hW0 hB0
  have CB := Lib.hid (boxS b0_0)
  have S1 := S.ext X0; have V1 := V.ext X0
  clear S V b0_0
  go_enter Tryz.func22, Tryz.ntmps22
  obtain ⟨c0, c1, c2, c3⟩ := CB.out _ (Ext.refl _)
  go_wp2_with fail
  rw [HW0.out, HB0.out]
  clear HW0 HB0
  refine (scvalid_walk _ _ _ s _ S1).mono ?_
  cases hok : scB s with
  | false =>
    have HT := Lib.hid (tune_bad (s := s) (h := h) (by unfold tunB; rw [hok]; rfl))
    clear hok
    rintro e w1 ⟨rfl, x1⟩
    clear c0 c1 c2 c3
    go_wp2
    go_ret2
    exact ⟨X0.trans x1, .inl ⟨by rw [HT.out]; decide, by rw [HT.out] <;> first | rfl | simp⟩⟩
  | true =>
  rintro e w1 ⟨rfl, x1⟩
  clear c0 c1 c2 c3
  obtain ⟨c0, c1, c2, c3⟩ := CB.out _ x1
  have HOK := Lib.hid (scB_iff.1 hok)
  have HSB := Lib.hid hok
  clear hok
  have hcn := HOK.out.sz.2.2.2
  have E1 : IntKind.i64.wrap ((s.cads.length : Int) + 1) = (s.cads.length : Int) + 1 := IntWalk.i64_in _ (by omega)
  by_cases hl : h.length ≤ s.cads.length + 1
  case neg =>
    have HT := Lib.hid (tune_bad (s := s) (h := h) (by unfold tunB; rw [decide_eq_false hl, Bool.and_false]; rfl))
    have t1 : decide ((s.cads.length : Int) + 1 < (h.length : Int)) = true := decide_eq_true (by omega)
    clear hl
    go_wp2
    go_ret2
    exact ⟨X0.trans x1, .inl ⟨by rw [HT.out]; decide, by rw [HT.out] <;> first | rfl | simp⟩⟩
  case pos =>
  have t1 : decide ((s.cads.length : Int) + 1 < (h.length : Int)) = false := decide_eq_false (by omega)
  have HHL := Lib.hid hl
  have HAS := Lib.hid fun w' (y : Ext W0 w') => hasV_walk _ h 48 (fun x => !within x 48) w' (V1.ext y) (enters_of Tryz.func48 (by kernel_rfl) rfl) (fun x _ w' _ => tun1_walk x w')
  obtain ⟨r, hr⟩ : ∃ r, (h.any fun x => !within x 48) = r := ⟨_, rfl⟩
  rw [hr] at HAS
  have HR := Lib.hid hr
  clear hl hr
  go_wp2_with fail
  refine (HAS.out _ x1).mono ?_
  rintro e w2 ⟨rfl, y2⟩
  have x2 := x1.trans y2
  clear c0 c1 c2 c3 E1 t1
  cases r with
  | true =>
    have HT := Lib.hid (tune_bad (s := s) (h := h) (by
      have h1 := HR.out
      rw [List.any_eq_true] at h1
      obtain ⟨x, hx, hx2⟩ := h1
      unfold tunB
      rw [Bool.and_eq_false_iff]; right
      rw [List.all_eq_false]
      exact ⟨x, hx, by simpa using hx2⟩))
    go_wp2
    go_ret2
    exact ⟨X0.trans x2, .inl ⟨by rw [HT.out]; decide, by rw [HT.out] <;> first | rfl | simp⟩⟩
  | false =>
  have HWI : Hid (∀ x ∈ h, within x 48 = true) := Lib.hid fun x hx => by
    have h1 := HR.out
    rw [List.any_eq_false] at h1
    have := h1 x hx
    simpa using this
  have HTB : Hid (tunB s h = true) := Lib.hid (tunB_iff.2 ⟨HOK.out, HHL.out, HWI.out⟩)
  obtain ⟨c0, c1, c2, c3⟩ := CB.out _ x2
  go_wp2_with fail
  refine (plant_walk _ _ _ s HOK.out _ (S1.ext x2)).mono ?_
  rintro e W3 ⟨g, u, q, rfl, hg, hu, hq, T, y3⟩
  have x3 := x2.trans y3
  have hz2 := x2.size
  have hg' := (Array.getElem?_eq_some_iff.1 T.tb).1
  have hu' := T.up.lt
  have hq' := T.pr.lt
  have T0 := T.congr (F' := upF s) (G' := prodG s h 0) (fun _ _ => rfl) (fun i _ => prodG_zero s h i)
  have k1 := T0.c4
  have HT0 := Lib.hid T0
  clear c0 c1 c2 c3 T T0
  go_wp2
  clear k1
  have HBW := Lib.hid (And.intro (show g < W3.heap.size from hg') (And.intro (show u < W3.heap.size from hu') (show q < W3.heap.size from hq')))
  have HGW := Lib.hid (And.intro hg (And.intro hu (And.intro hq hz2)))
  have HX3 := Lib.hid x3
  clear hg hu hq hz2 hg' hu' hq' y3 x2 x1
  have hnn := HOK.out.sz.2.1
  go_loopw [33] (fun i wr => ∃ (k : Nat) (vx : Value), k ≤ s.notes.length ∧ i = .int .i64 k ∧ TreeR wr g u q s.voices (.slice an s.notes.length cn) (.slice ap s.pairs.length cp) (.slice ac s.cads.length cc) s.notes.length (upF s) (prodG s h k) vx ∧ OwnR wr W3.heap.size 32 6 V6.list vx (xsL s h k) ∧ Hid ((∀ j, j < k → secF s (s.N j).f < h.length) ∧ allB (xsL s h k) = true) ∧ W3.heap.size ≤ wr.heap.size ∧ Ext W0 wr) (fun i _ => s.notes.length - (intOf i).toNat)
  case atStart => exact ⟨0, .slice none 0 0, by omega, by first | rfl | trivial, HT0.out, OwnR.nil, Lib.hid ⟨fun j hj => absurd hj (Nat.not_lt_zero _), rfl⟩, Nat.le_refl _, HX3.out⟩
  case round =>
    obtain ⟨k, vx, hk, rfl, T, own, HQ, hwz, X⟩ := hrel
    by_cases hlt : k < s.notes.length
    case neg =>
      obtain rfl : k = s.notes.length := by omega
      have hm := tun_at HOK.out.nt (Nat.le_refl _) HQ.out.1 (fun hc => absurd hc (Nat.lt_irrefl _))
      have HT := Lib.hid (tune_yes HTB.out hm HQ.out.2)
      have HM := Lib.hid hm
      have HTT := Lib.hid T; have HOW := Lib.hid own
      clear hm T own
      go_wp2
      go_ret2
      exact ⟨X0.trans X, .inr ⟨by rw [HT.out, HM.out], g, u, q, vx, by first | rfl | simp, by have := HGW.out; have := X0.size; omega, by have := HGW.out; have := X0.size; omega, by have := HGW.out; have := X0.size; omega, by rw [HM.out]; exact HTT.out, by rw [HM.out]; exact HOW.out.mono (by have := HX3.out.size; have := X0.size; omega)⟩⟩
    case pos =>
    obtain ⟨c0, c1, c2, c3⟩ := CB.out _ X
    obtain ⟨u0, u1, u2⟩ := T.upC k hlt
    obtain ⟨p, hp⟩ : ∃ p, upF s k = p := ⟨_, rfl⟩
    rw [hp] at u0 u1 u2
    have HP := Lib.hid hp
    clear hp
    have X5 : Ext wr (wr.alloc (.cells #[.int .i64 p.a, .int .i64 p.b, .int .i64 p.k] 39)) := (by repeat (first | with_reducible exact Ext.refl _ | with_reducible assumption | with_reducible apply Ext.alloc | with_reducible apply Ext.drew | (with_reducible refine Ext.setCell ?_ (by (try simp) <;> omega) _)))
    have b5_0 := block_new wr (.cells #[.int .i64 p.a, .int .i64 p.b, .int .i64 p.k] 39)
    obtain ⟨W5, hW5⟩ : ∃ W, (wr.alloc (.cells #[.int .i64 p.a, .int .i64 p.b, .int .i64 p.k] 39)) = W := ⟨_, rfl⟩
    obtain ⟨B5, hB5⟩ : ∃ B, wr.heap.size = B := ⟨_, rfl⟩
    rw [hW5] at X5 b5_0
    rw [hB5] at b5_0
    have HZ5 : Hid (wr.heap.size ≤ B5) := Lib.hid (by omega)
    have HW5 := Lib.hid hW5; have HB5 := Lib.hid hB5
    clear hW5 hB5
    have X' := X.trans X5
    have j1 : (0 : Int) ≤ (k : Int) := by omega
    have j2 : (k : Int) < (s.notes.length : Int) := by omega
    have TT := Lib.hid (T.ext X5); have OO := Lib.hid (own.ext X5)
    have S5 := S1.ext X'
    obtain ⟨b, o, rfl, A⟩ := Sl.nt S5.nt k hlt
    rw [← Sc.N_eq hlt] at A
    obtain ⟨y, hy⟩ : ∃ y, s.N k = y := ⟨_, rfl⟩
    have hno := HOK.out.nt.note hlt
    rw [hy] at A hno
    have HY := Lib.hid hy
    obtain ⟨z0, z1, z2, z3⟩ := CB.out _ X'
    have f0 := ext_cells z0; have f1 := ext_cells z1; have f2 := ext_cells z2; have f3 := ext_cells z3; have g1 := ext_cells A.c1
    have SW := Lib.hid fun w' (e : Ext W5 w') => psec_walk _ _ _ s y.f (by unfold noteOk at hno; omega) HOK.out.cd w' (S5.ext e)
    have HA := Lib.hid A
    clear T own z0 z1 z2 z3 A hno hy
    go_upto_region 7 with fail
    rw [HW5.out, HB5.out]
    clear u0 u1 u2 c0 c1 c2 c3 HW5 HB5
    refine wp_region_ord [(0,true), (1,true), (2,true), (3,true), (4,true), (5,true), (6,true), (7,true), (8,true)] 9 Ext (Ext W5) wide (by kernel_rfl) (stable_ext _) (Ext.drawn _ _) ?_
    iterate 7 (first | (apply wpOrd_no rfl; rfl; (simp only [List.getElem_toArray, List.getElem_cons_succ, List.getElem_cons_zero, Act.put, List.setIfInBounds_toArray, List.set_cons_succ, List.set_cons_zero]; rfl)) | (apply wpOrd_yes rfl; rfl; (intro w' hw'; unfold opR; go_simp; exact ⟨Ext.refl _, rfl⟩); (simp only [List.getElem_toArray, List.getElem_cons_succ, List.getElem_cons_zero, Act.put, List.setIfInBounds_toArray, List.set_cons_succ, List.set_cons_zero]; rfl)))
    (apply wpOrd_det rfl rfl; (intro w' hw'; refine opR_call rfl (Go.Proofs.enters_of Tryz.func50 (by kernel_rfl) rfl) (by simp only [List.map_toArray, List.map_cons, List.map_nil, Act.eval, Array.getD_eq_getD_getElem?, List.getElem?_toArray, List.getElem?_cons_succ, List.getElem?_cons_zero, Option.getD_some]; rfl) ?_; refine (SW.out _ hw').mono ?_; rintro e w'' ⟨rfl, hx⟩; exact ⟨_, rfl, hx, rfl⟩); (simp only [List.getElem_toArray, List.getElem_cons_succ, List.getElem_cons_zero, Act.put, List.setIfInBounds_toArray, List.set_cons_succ, List.set_cons_zero]; rfl))
    (first | (apply wpOrd_no rfl; rfl; (simp only [List.getElem_toArray, List.getElem_cons_succ, List.getElem_cons_zero, Act.put, List.setIfInBounds_toArray, List.set_cons_succ, List.set_cons_zero]; rfl)) | (apply wpOrd_yes rfl; rfl; (intro w' hw'; unfold opR; go_simp; exact ⟨Ext.refl _, rfl⟩); (simp only [List.getElem_toArray, List.getElem_cons_succ, List.getElem_cons_zero, Act.put, List.setIfInBounds_toArray, List.set_cons_succ, List.set_cons_zero]; rfl)))
    refine wpOrd_nil rfl ?_
    intro W6 x6
    have x6' := X'.trans x6
    obtain ⟨sc, hsc⟩ : ∃ sc, secF s y.f = sc := ⟨_, rfl⟩
    rw [hsc]
    have HSC := Lib.hid hsc
    have HB5Z : Hid (W3.heap.size ≤ B5) := Lib.hid (by have := HZ5.out; omega)
    have HWZ : Hid (W3.heap.size ≤ W6.heap.size) := Lib.hid (by have := X5.size; have := x6.size; omega)
    clear hsc f0 f1 f2 f3 g1 SW hwz
    by_cases hs : sc < h.length
    case neg =>
      have t1 : decide (h.length ≤ sc) = true := decide_eq_true (by omega)
      have hm := tun_at HOK.out.nt (m := h.length) hk HQ.out.1 (fun _ => by rw [HY.out, HSC.out]; exact hs)
      have HT := Lib.hid (tune_yes HTB.out hm HQ.out.2)
      have HM := Lib.hid hm
      clear hm hs b5_0
      go_wp2
      go_ret2
      exact ⟨X0.trans x6', .inr ⟨by rw [HT.out, HM.out], g, u, q, vx, by first | rfl | simp, by have := HGW.out; have := X0.size; omega, by have := HGW.out; have := X0.size; omega, by have := HGW.out; have := X0.size; omega, by rw [HM.out]; exact TT.out.ext x6, by rw [HM.out]; exact (OO.out.ext x6).mono (by have := HX3.out.size; have := X0.size; omega)⟩⟩
    case pos =>
    have t1 : decide (h.length ≤ sc) = false := decide_eq_false (by omega)
    have bs := block_ext x6 b5_0
    have hB5 : B5 < W6.heap.size := (Array.getElem?_eq_some_iff.1 bs).1
    have d2 := block_cell bs 2 _ rfl
    have HBS := Lib.hid bs
    have HPF : Hid (p.k = 3 → prodF s h k = y.x.add (hF h sc) 1) := Lib.hid fun h3 => by
      unfold prodF; rw [HP.out, if_pos h3, HY.out, HSC.out]
    clear b5_0 bs
    have HLT := Lib.hid hlt
    go_upto_if 52 with fail
    clear t1
    go_cut [] (fun wx => TreeR wx g u q s.voices (.slice (some ⟨b, o, none⟩) s.notes.length cn) (.slice ap s.pairs.length cp) (.slice ac s.cads.length cc) s.notes.length (upF s) (prodG s h (k + 1)) vx ∧ OwnR wx W3.heap.size 32 6 V6.list vx (xsL s h k) ∧ wx.heap[B5]? = some (.cells #[.int .i64 p.a, .int .i64 p.b, .int .i64 p.k] 39 (0, 0)) ∧ W3.heap.size ≤ wx.heap.size ∧ Ext W0 wx)
    case first =>
      by_cases h3 : p.k = 3
      case neg =>
        have T7 := (TT.out.ext x6).congr (F' := upF s) (G' := prodG s h (k + 1)) (fun _ _ => rfl) (fun i _ => prodG_no s h k (by rw [HP.out]; exact h3) i)
        have HH := Lib.hid (And.intro T7 (And.intro (OO.out.ext x6) (And.intro HBS.out (And.intro HWZ.out x6'))))
        have e1 : (p.k == 3) = false := by rw [beq_eq_false_iff_ne]; exact h3
        clear h3 T7 d2
        go_wp2
        go_meet
        exact HH.out
      case pos =>
        have e1 : (p.k == 3) = true := by rw [beq_iff_eq]; exact h3
        have HH3 := Lib.hid h3
        have T6 := TT.out.ext x6
        have V6' := V1.ext x6'
        obtain ⟨bh, oh, rfl, a0, a1, a2, a3, a4, a5⟩ := Sl.vec V6' sc hs
        obtain ⟨z, hz⟩ : ∃ z, h[sc] = z := ⟨_, rfl⟩
        rw [hz] at a0 a1 a2 a3 a4 a5
        have hzh : hF h sc = z := by unfold hF; rw [List.getD_eq_getElem?_getD, List.getElem?_eq_getElem hs]; exact hz
        have HZH := Lib.hid hzh
        have A6 := (S1.ext x6')
        obtain ⟨b', o', e', A⟩ := Sl.nt A6.nt k HLT.out
        obtain ⟨rfl, rfl⟩ : b = b' ∧ o = o' := by simpa using e'
        rw [← Sc.N_eq HLT.out, HY.out] at A
        obtain ⟨-, -, -, q3, q4, q5, q6, q7, q8, -⟩ := A
        obtain ⟨-, z1, -, -⟩ := CB.out _ x6'
        have f1 := ext_cells z1; have f2 := ext_cells T6.c5
        have g3 := ext_cells q3; have g4 := ext_cells q4; have g5 := ext_cells q5; have g6 := ext_cells q6; have g7 := ext_cells q7; have g8 := ext_cells q8
        have b0 := ext_cells a0; have b1 := ext_cells a1; have b2 := ext_cells a2; have b3 := ext_cells a3; have b4 := ext_cells a4; have b5 := ext_cells a5
        have k1 : (0 : Int) ≤ (sc : Int) := by omega
        have k2 : (sc : Int) < (h.length : Int) := by omega
        have j1 : (0 : Int) ≤ (k : Int) := by omega
        have j2 : (k : Int) < (s.notes.length : Int) := by have := HLT.out; omega
        have AW := Lib.hid fun w' => padd_walk y.x z 1 (.inl rfl) ((Sml.of (x := y.x) (M := 24) (by rw [← HY.out]; exact (HOK.out.nt.note HLT.out).2.2.2)).mono (by omega)) ((by rw [← HZH.out]; exact (sml_hF HWI.out sc) : Sml 48 z).mono (by omega)) w'
        clear h3 T6 V6' hz hzh A6 e' q3 q4 q5 q6 q7 q8 z1 a0 a1 a2 a3 a4 a5 hs
        go_wp2
        clear d2
        refine wp_region_ord [(0,true), (1,true), (2,true), (3,true), (4,true), (5,true), (6,true), (7,true), (8,true), (9,true), (10,true), (11,true), (12,true), (13,true), (14,true), (15,true), (16,true)] 17 Ext (Ext W6) wide (by kernel_rfl) (stable_ext _) (Ext.drawn _ _) ?_
        iterate 15 (first | (apply wpOrd_no rfl; rfl; (simp only [List.getElem_toArray, List.getElem_cons_succ, List.getElem_cons_zero, Act.put, List.setIfInBounds_toArray, List.set_cons_succ, List.set_cons_zero]; rfl)) | (apply wpOrd_yes rfl; rfl; (intro w' hw'; unfold opR; go_simp; exact ⟨Ext.refl _, rfl⟩); (simp only [List.getElem_toArray, List.getElem_cons_succ, List.getElem_cons_zero, Act.put, List.setIfInBounds_toArray, List.set_cons_succ, List.set_cons_zero]; rfl)))
        (apply wpOrd_det rfl rfl; (intro w' hw'; refine opR_call rfl (Go.Proofs.enters_of Tryz.func51 (by kernel_rfl) rfl) (by simp only [List.map_toArray, List.map_cons, List.map_nil, Act.eval, Array.getD_eq_getD_getElem?, List.getElem?_toArray, List.getElem?_cons_succ, List.getElem?_cons_zero, Option.getD_some]; rfl) ?_; refine (AW.out _).mono ?_; rintro e w'' ⟨rfl, hx⟩; exact ⟨_, rfl, hx, rfl⟩); (simp only [List.getElem_toArray, List.getElem_cons_succ, List.getElem_cons_zero, Act.put, List.setIfInBounds_toArray, List.set_cons_succ, List.set_cons_zero]; rfl))
        (first | (apply wpOrd_no rfl; rfl; (simp only [List.getElem_toArray, List.getElem_cons_succ, List.getElem_cons_zero, Act.put, List.setIfInBounds_toArray, List.set_cons_succ, List.set_cons_zero]; rfl)) | (apply wpOrd_yes rfl; rfl; (intro w' hw'; unfold opR; go_simp; exact ⟨Ext.refl _, rfl⟩); (simp only [List.getElem_toArray, List.getElem_cons_succ, List.getElem_cons_zero, Act.put, List.setIfInBounds_toArray, List.set_cons_succ, List.set_cons_zero]; rfl)))
        refine wpOrd_nil rfl ?_
        intro W7 x7
        have T7 := TT.out.ext (x6.trans x7)
        obtain ⟨⟨e0, e1', e2, e3, e4, e5⟩, hfr⟩ := T7.prC k HLT.out
        have w0 := hfr (k * 6); have w1 := hfr (k * 6 + 1); have w2 := hfr (k * 6 + 2); have w3 := hfr (k * 6 + 3); have w4 := hfr (k * 6 + 4); have w5 := hfr (k * 6 + 5)
        obtain ⟨r, hr⟩ : ∃ r, y.x.add z 1 = r := ⟨_, rfl⟩
        rw [hr]
        have kq := kb_sets q (V6.list r) W7 (k * 6)
        have T8 := (T7.putPr k HLT.out r).congr (F' := upF s) (G' := prodG s h (k + 1)) (fun _ _ => rfl) (fun i _ => by
          rw [prodG_yes s h k (by rw [HP.out]; exact HH3.out) i, HY.out, HSC.out, HZH.out, hr])
        have O7 := OO.out.ext (x6.trans x7)
        have O8 : OwnR (W7.setCells q (k * 6) (V6.list r)) W3.heap.size 32 6 V6.list vx (xsL s h k) := OwnR.same O7 (fun b hb => kq.kept b (World.ownsRow.lt O7 b hb).2 (fun e => by
          have h1 := (World.ownsRow.lt O7 b hb).1
          have := Option.some.inj e
          have := HBW.out; omega))
        have hB : (W7.setCells q (k * 6) (V6.list r)).heap[B5]? = some (.cells #[.int .i64 p.a, .int .i64 p.b, .int .i64 p.k] 39 (0, 0)) := kq.at (block_ext x7 HBS.out) (fun e => by have := HBW.out; have := HB5Z.out; omega)
        have HH := Lib.hid (And.intro T8 (And.intro O8 (And.intro hB (And.intro (show W3.heap.size ≤ (W7.setCells q (k * 6) (V6.list r)).heap.size by have := kq.size; have := x7.size; have := HWZ.out; omega) (setCells_ext (x6'.trans x7) (show W0.heap.size ≤ q by have := HGW.out; omega) (V6.list r) (k * 6))))))
        clear hfr hr kq T7 T8 O7 O8 hB f1 f2 g3 g4 g5 g6 g7 g8 b0 b1 b2 b3 b4 b5 e1
        go_wp2
        go_meet
        exact HH.out
    case rest =>
      obtain ⟨T, own, bs, hwz, X7⟩ := hcut
      obtain ⟨W7, rfl⟩ : ∃ z : World, z = wc := ⟨_, rfl⟩
      obtain ⟨va, vm, vd, hvx⟩ := own.shape
      subst hvx
      have up := up_lt HOK.out HLT.out
      rw [HP.out] at up
      have hxk : (xsL s h k).length = k := xsL_len h k
      obtain ⟨pr, hpr⟩ : ∃ r, prodF s h k = r := ⟨_, rfl⟩
      obtain ⟨pa, hpa⟩ : ∃ r, pAt (xsL s h k) p.a = r := ⟨_, rfl⟩
      obtain ⟨x, hx⟩ : ∃ x, pa.add pr 1 = x := ⟨_, rfl⟩
      have AW := Lib.hid fun w' => padd_walk pa pr 1 (.inl rfl) ((by rw [← hpa]; exact sml_pAt HQ.out.2 p.a : Sml 32 pa).mono (by omega)) ((by rw [← hpr]; exact sml_prod HOK.out HWI.out HLT.out : Sml 72 pr).mono (by omega)) w'
      rw [hx] at AW
      obtain ⟨⟨e0, e1, e2, e3, e4, e5⟩, -⟩ := T.prC k HLT.out
      rw [prodG_at s h (show k < k + 1 by omega), hpr] at e0 e1 e2 e3 e4 e5
      have HXX : Hid (xsL s h (k + 1) = xsL s h k ++ [x]) := Lib.hid (by rw [xsL, HP.out, hpa, hpr, hx])
      have HTO : Hid (within x 32 = false → tuneR s h = ([], 3)) := Lib.hid fun hw => tune_out HTB.out ((tun_iff HOK.out.nt h.length HLT.out).2 (by rw [HY.out, HSC.out]; exact hs)) (by rw [HP.out, hpa, hpr, hx]; exact hw)
      have HNX : Hid (within x 32 = true → allB (xsL s h (k + 1)) = true) := Lib.hid fun hw => all_next HQ.out.2 (by rw [HP.out, hpa, hpr, hx]; exact hw)
      have HSL : Hid (∀ j, j < k + 1 → secF s (s.N j).f < h.length) := Lib.hid fun j hj => by
        by_cases e : j = k
        · subst e; rw [HY.out, HSC.out]; exact hs
        · exact HQ.out.1 j (by omega)
      obtain ⟨gg, hgg⟩ : ∃ z, (Value.slice va vm vd).ownBlock = z := ⟨_, rfl⟩
      have hg7 := (Array.getElem?_eq_some_iff.1 T.tb).1
      have hu7 := T.up.lt
      have hq7 := T.pr.lt
      have nlow : ∀ b, b < W3.heap.size → some b ≠ gg := fun b hb e => own.apart_below hb (hgg.trans e.symm)
      have n5 : some B5 ≠ gg := fun e => by
        obtain ⟨cs, hcs⟩ := own.kind (hgg.trans e.symm)
        have := hcs.symm.trans bs
        simp at this
      have ng := nlow g HBW.out.1; have nu := nlow u HBW.out.2.1; have nq := nlow q HBW.out.2.2
      have TK := Lib.hid fun (w' : World) (kb : Kb gg W7 w') => T.kept (w' := w') (kb.kept g hg7 ng) (kb.kept u hu7 nu) (kb.kept q hq7 nq)
      have PW := Lib.hid fun (w' : World) (kb : Kb gg W7 w') (ow : OwnR w' W3.heap.size 32 6 V6.list (.slice va vm vd) (xsL s h k)) => ppitch_walk g u q s.voices (.slice (some ⟨b, o, none⟩) s.notes.length cn) (.slice ap s.pairs.length cp) (.slice ac s.cads.length cc) (.slice va vm vd) s.notes.length (upF s) (prodG s h (k + 1)) (xsL s h k) p.a (by rw [hxk]; exact up.2.1) w' (TK.out w' kb) (ow.sl (fun _ _ => rfl) (by omega))
      rw [hpa] at PW
      have z0 := block_cell bs 0 _ rfl
      have f6 := kb_cells T.c6 ng; have f5 := kb_cells T.c5 ng; have fs := kb_cells z0 n5
      have b0 := kb_cells e0 nq; have b1 := kb_cells e1 nq; have b2 := kb_cells e2 nq; have b3 := kb_cells e3 nq; have b4 := kb_cells e4 nq; have b5 := kb_cells e5 nq
      have j1 : (0 : Int) ≤ (k : Int) := by omega
      have j2 : (k : Int) < (s.notes.length : Int) := by have := HLT.out; omega
      have OO7 := Lib.hid own; have HX7 := Lib.hid X7; have HWZ7 := Lib.hid hwz; have HXK := Lib.hid hxk; have HGG := Lib.hid hgg
      have HSZ7 : Hid (W0.heap.size ≤ W3.heap.size) := Lib.hid HX3.out.size
      clear T own bs X7 hwz hxk hpr hpa hx e0 e1 e2 e3 e4 e5 z0 up hs d2 hgg hg7 hu7 hq7 nlow n5 ng nu nq
      go_upto_region 11 with fail
      apply wp_region_ordX [(0,.det _),(1,.det _),(2,.det _),(3,.det _),(4,.det _),(5,.det _),(6,.det _),(7,.det _),(9,.det _),(10,.det _),(11,.det _),(12,.det _),(13,.det _),(14,.det _),(15,.det _),
        (8,.one (fun v => v = .agg #[.int .i64 pa.a, .int .i64 pa.b, .int .i64 pa.c, .int .i64 pa.d, .int .i64 pa.e, .int .i64 pa.f]) (fun _ w' => OwnR w' W3.heap.size 32 6 V6.list (.slice va vm vd) (xsL s h k)) (.agg #[.int .i64 pa.a, .int .i64 pa.b, .int .i64 pa.c, .int .i64 pa.d, .int .i64 pa.e, .int .i64 pa.f]) rfl),
        (16,.det _),
        (17,.one (fun _ => True) (fun v w' => OwnR w' W3.heap.size 32 6 V6.list (.slice va vm vd) (xsL s h k) ∧ Sl1 W3.heap.size 32 (#[.int .i64 x.a, .int .i64 x.b, .int .i64 x.c, .int .i64 x.d, .int .i64 x.e, .int .i64 x.f] : Array Value) v w') undef trivial),
        (18,.one (fun _ => True) (fun v w' => OwnR w' W3.heap.size 32 6 V6.list v (xsL s h k ++ [x])) undef trivial),
        (19,.det _),(20,.det _)] 21 Ext (Kb gg) (Kb gg W7) (fun w' => OwnR w' W3.heap.size 32 6 V6.list (.slice va vm vd) (xsL s h k)) wide
        [(0,true),(1,true),(2,true),(3,true),(4,true),(5,true),(6,true),(7,true),(9,true),(10,true),(11,true),(12,true),(13,true),(14,true),(15,true),(8,false),(16,true),(17,false),(18,false),(19,true),(20,true)] (by kernel_rfl) rfl (by decide) (sub_kb gg) (stable_kb gg W7) (fun _ _ h k => h.ext k) (Kb.drawn _ _ _) (OO7.out.ext (Ext.drawn _ _)) ?main3
      case main3 =>
        iterate 15 (apply ordX_det rfl rfl; (intro w' hw'; unfold opR; go_simp; exact ⟨Ext.refl _, rfl⟩); (simp only [List.getElem_toArray, List.getElem_cons_succ, List.getElem_cons_zero, Act.put, List.setIfInBounds_toArray, List.set_cons_succ, List.set_cons_zero]; rfl))
        apply ordX_one (fun v => (fun _ _ h k => h.ext k)) rfl rfl
        · intro w' hw' hc'
          refine opR_call rfl (Go.Proofs.enters_of Tryz.func52 (by kernel_rfl) rfl) (by simp only [List.map_toArray, List.map_cons, List.map_nil, Act.eval, Array.getD_eq_getD_getElem?, List.getElem?_toArray, List.getElem?_cons_succ, List.getElem?_cons_zero, Option.getD_some]; rfl) ?_
          refine (PW.out w' hw' hc').mono ?_
          rintro e w'' ⟨rfl, hx⟩
          exact ⟨_, rfl, hx.kb gg, rfl, hc'.ext hx⟩
        · intro v; (simp only [List.getElem_toArray, List.getElem_cons_succ, List.getElem_cons_zero, Act.put, List.setIfInBounds_toArray, List.set_cons_succ, List.set_cons_zero]; rfl)
        rintro _ rfl
        (apply ordX_det rfl rfl; (intro w' hw'; refine opR_call rfl (Go.Proofs.enters_of Tryz.func51 (by kernel_rfl) rfl) (by simp only [List.map_toArray, List.map_cons, List.map_nil, Act.eval, Array.getD_eq_getD_getElem?, List.getElem?_toArray, List.getElem?_cons_succ, List.getElem?_cons_zero, Option.getD_some]; rfl) ?_; refine (AW.out _).mono ?_; rintro e w'' ⟨rfl, hx⟩; exact ⟨_, rfl, hx, rfl⟩); (simp only [List.getElem_toArray, List.getElem_cons_succ, List.getElem_cons_zero, Act.put, List.setIfInBounds_toArray, List.set_cons_succ, List.set_cons_zero]; rfl))
        apply ordX_one (fun v => stable_and (fun _ _ h k => h.ext k) (stable_sl1 _ _ _ _)) rfl rfl
        · intro w' hw' hc'; unfold opR; go_simp
          exact ⟨(Ext.alloc' _ _).kb gg, hc'.alloc _, Sl1.new w' _ _ (Nat.le_trans HWZ7.out hw'.size)⟩
        · intro v; (simp only [List.getElem_toArray, List.getElem_cons_succ, List.getElem_cons_zero, Act.put, List.setIfInBounds_toArray, List.set_cons_succ, List.set_cons_zero]; rfl)
        intro sv _
        apply ordX_one (fun v => (fun _ _ h k => h.ext k)) rfl rfl
        · rintro w' hw' ⟨ho, b7, rfl, hbb, hrow⟩
          refine opR_own_app et_xs _ _ rfl ho rfl [x] ⟨b7, 0, none⟩ 1 rfl (by simp [V6.list]) (fun j u hu => row_cells hrow j u hu) (by simp [V6.list, Value.oneCell']) (by rw [HXK.out]; simp; omega) (Nat.le_trans HWZ7.out hw'.size) ?_
          intro v' w4 hown' hb' happ'
          exact ⟨HGG.out ▸ happ'.kb, trivial, hown'⟩
        · intro v; (simp only [List.getElem_toArray, List.getElem_cons_succ, List.getElem_cons_zero, Act.put, List.setIfInBounds_toArray, List.set_cons_succ, List.set_cons_zero]; rfl)
        intro av _
        iterate 2 (apply ordX_det rfl rfl; (intro w' hw'; unfold opR; go_simp; exact ⟨Ext.refl _, rfl⟩); (simp only [List.getElem_toArray, List.getElem_cons_succ, List.getElem_cons_zero, Act.put, List.setIfInBounds_toArray, List.set_cons_succ, List.set_cons_zero]; rfl))
        refine ordX_nil (l := [_]) rfl ?_
        intro w9 hw9 ho9 _
        obtain ⟨ys, hys⟩ : ∃ ys, xsL s h k ++ [x] = ys := ⟨_, rfl⟩
        have hyl : ys.length = k + 1 := by rw [← hys, List.length_append, HXK.out]; rfl
        have hxe : ys[k]'(by omega) = x := by subst hys; rw [List.getElem_append_right (by rw [HXK.out]; omega)]; simp [HXK.out]
        rw [hys] at ho9
        have HXY : Hid (xsL s h (k + 1) = ys) := Lib.hid (HXX.out.trans hys)
        obtain ⟨va', vd', e2, -, -, -⟩ := (ho9.sl (fun _ _ => rfl) (by omega)).len
        subst e2
        have T9 := TK.out w9 hw9
        have X9 : Ext W0 w9 := Below.trans HX7.out (hw9.below HX7.out.size (fun b hb => by
          have h1 := (World.ownsRow.lt OO7.out b (HGG.out.trans hb)).1
          have := HSZ7.out; omega))
        have T10 := T9.putX (.slice va' ys.length vd')
        have O10 : OwnR (w9.setCell ⟨g, 6, none⟩ (.slice va' ys.length vd')) W3.heap.size 32 6 V6.list (.slice va' ys.length vd') ys := ho9.stay (ho9.apart_below HBW.out.1) _
        have X10 : Ext W0 (w9.setCell ⟨g, 6, none⟩ (.slice va' ys.length vd')) := X9.setCell (show W0.heap.size ≤ g by have := HGW.out; omega) _
        have hz9 : W3.heap.size ≤ (w9.setCell ⟨g, 6, none⟩ (.slice va' ys.length vd')).heap.size := by have h1 := HWZ7.out; have h2 := hw9.size; have h3 := (show w9.heap.size ≤ (w9.setCell ⟨g, 6, none⟩ (.slice va' ys.length vd')).heap.size by simp); omega
        have q6 := T9.c6
        have r6 := block_free T9.tb 6
        obtain ⟨W10, hW10⟩ : ∃ W, w9.setCell ⟨g, 6, none⟩ (.slice va' ys.length vd') = W := ⟨_, rfl⟩
        rw [hW10] at T10 O10 X10 hz9
        have HW10 := Lib.hid hW10
        have HT10 := Lib.hid T10; have HO10 := Lib.hid O10; have HX10 := Lib.hid X10; have HZ10 := Lib.hid hz9
        have c6 := T10.c6
        obtain ⟨bx, ox, e1, a0, a1, a2, a3, a4, a5⟩ := Sl.vec (O10.sl (fun _ _ => rfl) (by omega)) k (by omega)
        obtain rfl : va' = some ⟨bx, ox, none⟩ := by simpa using e1
        rw [hxe] at a0 a1 a2 a3 a4 a5
        have i2 : (k : Int) < (ys.length : Int) := by omega
        clear T9 T10 O10 X10 hz9 hW10 hxe e1 X9 ho9 hw9 f6 f5 fs b0 b1 b2 b3 b4 b5 hyl hys
        go_upto_region 12 with fail
        rw [HW10.out]
        clear q6 r6
        go_wp2_with fail
        refine (ranged_walk x _).mono ?_
        obtain ⟨bw, hbw⟩ : ∃ r, within x 32 = r := ⟨_, rfl⟩
        rw [hbw]
        have HBW2 := Lib.hid hbw
        clear hbw
        rintro e w11 ⟨rfl, x11⟩
        clear c6 a0 a1 a2 a3 a4 a5
        cases bw with
        | false =>
          have HT := Lib.hid (HTO.out HBW2.out)
          go_wp2
          go_ret2
          exact ⟨X0.trans (HX10.out.trans x11), .inl ⟨by rw [HT.out]; decide, by rw [HT.out] <;> first | rfl | simp⟩⟩
        | true =>
          go_wp2
          go_roundw
          case rel => exact ⟨k + 1, _, by have := HLT.out; omega, by go_num, HT10.out.ext x11, by rw [HXY.out]; exact HO10.out.ext x11, Lib.hid ⟨HSL.out, HNX.out HBW2.out⟩, by have := HZ10.out; have := x11.size; omega, HX10.out.trans x11⟩
          case measure => have := HLT.out; simp [intOf] <;> omega
end Go.Proofs.YtgfaiihekibcbaaGreatDoor
