/-
  Walks of potential: way.
-/
import Derived.Test.YtgfaiihekibcbaaGreatDoorLibV
import Derived.Deep.CutRange
set_option linter.unusedVariables false
namespace Go.Sx
open Go.RowKit Go.WideMaps
theorem MpL.put_run {P : Program} {kt et : TypeId} {b cnt : Nat} {S : Lit → Option Lit} {w : World} (h : MpL P kt et b cnt S w) {t : TypeId} (K : Maps.Keyed P kt) (ht : P.underlying t = some (.map kt et)) (hn : cnt < maxLen) {key val : Value} {kl l : Lit}
    (hkey : keyOf P kt key = some kl) (hval : plainElem (H := Unit) P et val = some (.lit l, [])) : ∃ w', (Instr.mapUpdate t (.map (some b)) key val).run P w = .ok () w' ∧ MpL P kt et b (cnt + 1) (updL S kl l) w' ∧ w.grownBy w' (some b) := by
  obtain ⟨D, h1, h2⟩ := h
  obtain ⟨w', hrun, r1, r2⟩ := h1.update K ht hn hkey hval
  exact ⟨w', hrun, MpL.put_of h2 h1.isMap (K.key hkey) r1, r2⟩
theorem KeepsFrom.kbrow {B : Nat} {gg : Option Nat} {W W' : World} (k : Kb gg W W') (hc : ∀ b, gg = some b → ∃ cs e z, W.heap[b]? = some (.cells cs e z)) : KeepsFrom B W W' :=
  ⟨k.size, fun i o _ hi ho => by
    by_cases h : gg = some i
    · obtain ⟨cs, e, z, hc⟩ := hc i h
      rw [hi] at hc; cases hc; cases ho
    · exact (k.kept i (Array.getElem?_eq_some_iff.1 hi).1 (fun e => h e.symm)).trans hi⟩
theorem KeepsFrom.setc {B : Nat} (W : World) (p : Addr) (v : Value) (hp : p.block < B) : KeepsFrom B W (W.setCell p v) :=
  ⟨by simp, fun i o hB hi _ => (Below.heap_setCell _ _ _ _ (by omega)).trans hi⟩
theorem Kx.row {g nb : Nat} {w a b : World} (h : Kx g nb w a) {gg : Option Nat} (k : Kb gg a b) (hB : ∀ i, gg = some i → w.heap.size ≤ i) : Kx g nb w b :=
  ⟨k.os.trans h.os, k.tape.trans h.tape, k.output.trans h.output, Nat.le_trans h.size k.size, fun i h1 h2 h3 => (k.kept i (Nat.lt_of_lt_of_le h1 h.size) (fun e => by have := hB i e.symm; omega)).trans (h.kept i h1 h2 h3)⟩
theorem Kx.set {g nb : Nat} {w a : World} (h : Kx g nb w a) (j : Nat) (v : Value) : Kx g nb w (a.setCell ⟨g, j, none⟩ v) := h.g (kb_set a g j v)
end Go.Sx
namespace Go.Sx.Po
open Go.Sx Go.Sx.Sz Go.Sx.Sc Go.RowKit Go.WideMaps
def kZ (x : Int) : Lit := .int .i64 x
/-- What is above b, when the steps l are noted. -/
noncomputable def abM (b : Int) (l : List St) : Lit → Option Lit := l.foldl (fun S p => updL S (kZ p.a) (.bool true)) (updL (fun _ => none) (kZ b) (.bool true))
theorem abM_succ (b : Int) (l : List St) (p : St) : abM b (l ++ [p]) = updL (abM b l) (kZ p.a) (.bool true) := by unfold abM; rw [List.foldl_append]; rfl
theorem abF_at (x : Int) : ∀ (l : List St) (S : Lit → Option Lit), (l.foldl (fun S p => updL S (kZ p.a) (.bool true)) S) (kZ x) = if (l.any fun p => decide (p.a = x)) = true then some (.bool true) else S (kZ x)
  | [], S => by simp
  | p :: l, S => by
    rw [List.foldl_cons, abF_at x l]
    by_cases h : (l.any fun p => decide (p.a = x)) = true
    · rw [if_pos h, List.any_cons, h, Bool.or_true, if_pos rfl]
    · rw [if_neg h, List.any_cons]
      by_cases e : p.a = x
      · rw [decide_eq_true e, Bool.true_or, if_pos rfl, e, updL_same]
      · rw [decide_eq_false e, Bool.false_or, if_neg h, updL_other _ (by unfold kZ; intro h'; exact e (by simpa using h'.symm))]
theorem abM_at (s : Sc) (b x : Int) : abM b (chn s b) (kZ x) = some (.bool (aboveB s b x)) ∨ (abM b (chn s b) (kZ x) = none ∧ aboveB s b x = false) := by
  unfold abM
  rw [abF_at]
  unfold aboveB
  by_cases h : ((chn s b).any fun p => decide (p.a = x)) = true
  · rw [if_pos h, h, Bool.or_true]; exact .inl rfl
  · rw [if_neg h]
    rw [Bool.not_eq_true] at h
    rw [h, Bool.or_false]
    by_cases e : x = b
    · rw [e, updL_same, decide_eq_true rfl]; exact .inl rfl
    · rw [updL_other _ (by unfold kZ; intro h'; exact e (by simpa using h')), decide_eq_false e]
      exact .inr ⟨rfl, rfl⟩
/-- Where a way up ends that stops at the first step that holds. -/
theorem tw_at {l : List St} {q : St → Bool} {k : Nat} (hk : k < l.length) (h1 : ∀ x ∈ l.take k, q x = true) (h2 : q l[k] = false) : l.takeWhile q = l.take k := by
  induction l generalizing k with
  | nil => simp at hk
  | cons p l ih =>
    cases k with
    | zero => simp only [List.getElem_cons_zero] at h2; rw [List.takeWhile_cons, h2]; rfl
    | succ k =>
      rw [List.takeWhile_cons, h1 p (by simp), if_pos rfl, List.take_succ_cons]
      rw [ih (by simpa using hk) (fun x hx => h1 x (by simp [hx])) (by simpa using h2)]
theorem tw_self {q : St → Bool} : ∀ (l : List St), (∀ x ∈ l, q x = true) → l.takeWhile q = l
  | [], _ => rfl
  | p :: l, h => by rw [List.takeWhile_cons, h p (by simp), if_pos rfl, tw_self l (fun x hx => h x (by simp [hx]))]
theorem tw_all {l : List St} {q : St → Bool} (h1 : ∀ x ∈ l.take l.length, q x = true) : l.takeWhile q = l.take l.length := by
  rw [List.take_length] at *
  exact tw_self l h1
theorem end_last : ∀ (l : List St) (x : Int) (h : 0 < l.length), endOf l x = (l[l.length - 1]).a
  | [], _, h => absurd h (by simp)
  | [p], x, _ => rfl
  | p :: q :: l, x, _ => by rw [endOf, end_last (q :: l) p.a (by simp)]; simp
end Go.Sx.Po
namespace Go.Proofs.YtgfaiihekibcbaaGreatDoor
open Go.RowKit Go.Sx Go.Sx.Sz Go.Sx.Sc Go.Sx.Po Go.WideMaps
attribute [local go_sem] Oper.semAt_some wide_fn wide_depth
theorem keyedI : Maps.Keyed Tryz.prog 3 := Maps.int_keyed Tryz.underlying3
theorem keyI {x : Int} (h : -1000000 ≤ x ∧ x ≤ 1000000) : keyOf Tryz.prog 3 (.int .i64 x) = some (kZ x) := Maps.keyOf_int_mk Tryz.underlying3 (WalkArith.wf_i64 (by omega))
theorem et_st : ET Tryz.prog 30 39 3 24 := .mk' (z := .agg #[.int .i64 0, .int .i64 0, .int .i64 0]) Tryz.underlying30 (by kernel_rfl) rfl (by decide) (by decide)
theorem chn_len {s : Sc} (h : ScOk s) {n : Int} (h0 : -1 ≤ n) (h1 : n < s.notes.length) : (chn s n).length ≤ 201 := by
  have := ch_len h (Nat.le_refl _) (chn s n) n (chn_ok h (Nat.le_refl _) h0 h1).1 h0
  have := h.sz.2.1
  omega

set_option maxRecDepth 100000 in
set_option maxHeartbeats 16000000 in
theorem way_walk (g u q : Nat) (vs : Int) (vn vp vc vx : Value) (s : Sc) (G : Nat → V6) (hok : ScOk s) (a b : Nat) (ha : a < s.notes.length) (hb : b < s.notes.length) (w : World) (T : TreeR w g u q vs vn vp vc s.notes.length (upF s) G vx) :
    Calls Tryz.prog 24 #[.pointer (some ⟨g, 0, none⟩), .int .i64 a, .int .i64 b] w fun e w' => ∃ v, e = .returned v ∧ OwnR w' w.heap.size 39 3 encSt v (wayF s a b) ∧ Ext w w' := by
  have HT := Lib.hid T
  have ha2 := hok.sz.2.1
  refine (callsIn_wide (n := 0)).1 ?_
  refine callsIn_of_wp_marks Tryz.func24 rfl trivial ?_ rfl
  simp only [Tryz.ntmps24, List.size_toArray, List.length_cons, List.length_nil, Nat.reduceAdd, Nat.reduceSub, Array.replicate_succ, Array.replicate_zero, List.push_toArray, List.append_toArray, List.nil_append, List.cons_append]
  refine wpIn_wide.2 ?_
  have m0 := MpL.made w Tryz.prog 3 4
  have X0 : Ext w (w.alloc (.map #[] 0)) := (by repeat (first | with_reducible exact Ext.refl _ | with_reducible assumption | with_reducible apply Ext.alloc | with_reducible apply Ext.drew | (with_reducible refine Ext.setCell ?_ (by (try simp) <;> omega) _)))
  have hkb := keyI (x := (b : Int)) (by omega)
  have hvt : plainElem (H := Unit) Tryz.prog 4 (.bool true) = some (.lit (.bool true), []) := plainElem_bool Tryz.underlying4 true
  obtain ⟨W1, hrun, M1, gr1⟩ := m0.put_run keyedI Tryz.underlying111 (by unfold maxLen; omega) hkb hvt
  have hz1 := gr1.size
  have hX1 : Ext w W1 := Below.trans X0 (below_grown' gr1 (Nat.le_refl _) (by simp))
  obtain ⟨B0, hB0⟩ : ∃ Z, w.heap.size = Z := ⟨_, rfl⟩
  rw [hB0] at M1 hrun
  simp [hB0] at hz1
  have HB0 := Lib.hid hB0
  clear T m0 gr1 hkb X0
  have hmm := @run_makeMap Tryz.prog
  have hM1 := M1.lt
  have X2 : Ext W1 (W1.alloc (.cells #[.map (some B0)] 111)) := (by repeat (first | with_reducible exact Ext.refl _ | with_reducible assumption | with_reducible apply Ext.alloc | with_reducible apply Ext.drew | (with_reducible refine Ext.setCell ?_ (by (try simp) <;> omega) _)))
  have b2_0 := block_new W1 (.cells #[.map (some B0)] 111)
  obtain ⟨W2, hW2⟩ : ∃ W, (W1.alloc (.cells #[.map (some B0)] 111)) = W := ⟨_, rfl⟩
  obtain ⟨B2, hB2⟩ : ∃ B, W1.heap.size = B := ⟨_, rfl⟩
  rw [hW2] at X2 b2_0
  rw [hB2] at b2_0
  have HZ2 : Hid (W1.heap.size ≤ B2) := Lib.hid (by omega)
  have HW2 := Lib.hid hW2; have HB2 := Lib.hid hB2
  clear hW2 hB2
  go_upto_region 2 with fail
  rw [HW2.out, HB2.out]
  have M2 := M1.ext X2
  have hX2 := hX1.trans X2
  have hz2 : W2.heap.size = B2 + 1 := by rw [← HW2.out]; simp [HB2.out]
  have hb2 : B2 = B0 + 1 ∨ B0 + 1 ≤ B2 := by have := HB2.out; omega
  clear hmm hrun hM1 hz1 M1 X2 HW2 HB2
  go_wp2_with fail
  refine (steps_walk g (b : Int) _).mono ?_
  rintro e w3 ⟨rfl, rfl⟩
  have X3 : Ext W2 ((W2.alloc (.cells #[.pointer (some ⟨g, 0, none⟩)] 62)).alloc (.cells #[.int .i64 b] 3)) := (by repeat (first | with_reducible exact Ext.refl _ | with_reducible assumption | with_reducible apply Ext.alloc | with_reducible apply Ext.drew | (with_reducible refine Ext.setCell ?_ (by (try simp) <;> omega) _)))
  have b3_0 := block_alloc (block_new W2 (.cells #[.pointer (some ⟨g, 0, none⟩)] 62)) (.cells #[.int .i64 b] 3)
  have b3_1 := block_at (w := (W2.alloc (.cells #[.pointer (some ⟨g, 0, none⟩)] 62))) (n := W2.heap.size + 1) (by simp) (.cells #[.int .i64 b] 3)
  obtain ⟨W3, hW3⟩ : ∃ W, ((W2.alloc (.cells #[.pointer (some ⟨g, 0, none⟩)] 62)).alloc (.cells #[.int .i64 b] 3)) = W := ⟨_, rfl⟩
  obtain ⟨B3, hB3⟩ : ∃ B, W2.heap.size = B := ⟨_, rfl⟩
  rw [hW3] at X3 b3_0 b3_1
  rw [hB3] at b3_0 b3_1
  have HZ3 : Hid (W2.heap.size ≤ B3) := Lib.hid (by omega)
  have HW3 := Lib.hid hW3; have HB3 := Lib.hid hB3
  clear hW3 hB3
  rw [HW3.out]
  have hz3 : W3.heap.size = B3 + 2 := by rw [← HW3.out]; simp [HB3.out]
  have hb3 : B3 = B2 + 1 := by have := HB3.out; omega
  subst hb3
  have hB0w := HB0.out
  clear HW3 HB3
  have M3 := M2.ext X3
  have hX3 := hX2.trans X3
  have b2 := block_ext X3 b2_0
  have lg := (Array.getElem?_eq_some_iff.1 HT.out.tb).1
  have lu := HT.out.up.lt
  have lq := HT.out.pr.lt
  have TW := Lib.hid fun (Z : Nat) (nb : Nat) (V W : World) (h : Kx Z nb V W) (x : Ext w V) (h1 : w.heap.size ≤ Z) (h2 : w.heap.size ≤ nb) => (HT.out.ext x).kept (w' := W) (h.kept g (by have := x.size; omega) (by omega) (by omega)) (h.kept u (by have := x.size; omega) (by omega) (by omega)) (h.kept q (by have := x.size; omega) (by omega) (by omega))
  have hlen := chn_len hok (n := (b : Int)) (by omega) (by omega)
  clear M2 X3 b2_0 hX1 hX2
  go_wp2_with fail
  refine (wpIn_wide (n := 0)).1 ?_
  refine wpIn_rangeT (gf := 83) (lb := #[.pointer (some ⟨B2 + 1 + 1, 0, none⟩), .pointer (some ⟨B2 + 1, 0, none⟩)]) rfl (enters_of Tryz.func83 (by kernel_rfl) rfl)
    (steps_iter (B2 + 1) g u q (B2 + 1 + 1) vs vn vp vc vx s G hok b (by omega) (by omega) (by omega) (by omega) (by omega) (by omega)) (fun _ => rfl)
    (fun k W => Kx B0 (B2 + 1 + 1) W3 W ∧ MpL Tryz.prog 3 4 B0 (k + 1) (abM b ((chn s b).take k)) W)
    (fun c W => False)
    (by omega) (fun W h => h.trans b3_1)
    (fun k => (AbideT.kx (Nat.le_refl _)).and (AbideT.mpl (by omega) (by omega))) (fun c => AbideT.pure _)
    (fun k W ⟨h1, _⟩ => ⟨h1.at b3_0 (by omega) (by omega), TW.out _ _ _ _ h1 hX3 (by omega) (by omega)⟩)
    ⟨Kx.refl _ _ _, M3⟩ ?round ?done ?stop
  case stop => intro D c W _ h; exact h.elim
  case round =>
    rintro lr k W hk ⟨hkx, M⟩ hle hlt'
    have htk := Lib.hid (List.take_succ_eq_append_getElem hk)
    have hcl := (chn_at hok (n := (b : Int)) (by omega) (by omega) k (by omega)).2.1 hk
    have hpb : -1 ≤ ((chn s b)[k]).a ∧ ((chn s b)[k]).a < 1000 := by
      have h1 := (chn_at hok (n := (b : Int)) (by omega) (by omega) (k + 1) (by omega)).2.2
      rw [hcl]; exact ⟨h1.1, by have := h1.2; show (upF s _).a < _; exact Int.lt_trans this (by omega)⟩
    obtain ⟨p, hp⟩ : ∃ p, (chn s b)[k] = p := ⟨_, rfl⟩
    rw [hp] at htk hpb ⊢
    simp only [encS1]
    clear hcl hp
    gi_wp2
    have hsz := hkx.size
    have e1 := Ext.alloc' W (.cells #[.int .i64 p.a, .int .i64 p.b, .int .i64 p.k] 39)
    refine ⟨⟨(KeepsOthers.alloc _ _).from _, e1.block _ (by omega)⟩, fun W5 hs5 => ?_⟩
    have c0 := (hs5.cell _).trans (alloc_cell W #[.int .i64 p.a, .int .i64 p.b, .int .i64 p.k] 39 0 _ rfl)
    have k5 := (hkx.ext e1).put hle hs5
    have M5 : MpL Tryz.prog 3 4 B0 (k + 1) (abM b ((chn s b).take k)) W5 := (AbideT.mpl (B := W3.heap.size) (nb := B2 + 1 + 1) (by omega) (by omega)).put _ _ lr (M.ext e1) hle hs5
    have cm := block_cell (k5.at b2 (by omega) (by omega)) 0 _ rfl
    obtain ⟨W6, hrun, M6, gr6⟩ := M5.put_run keyedI Tryz.underlying111 (by unfold maxLen; omega) (keyI (x := p.a) (by omega)) hvt
    have FIN := Lib.hid (And.intro (KeepsFrom.of_grownBy (B := W3.heap.size) gr6 (fun j e => by have := Option.some.inj e; omega)) (And.intro ((kb_grown gr6).kept (B2 + 1 + 1) (by have := k5.size; omega) (fun e => by have := Option.some.inj e; omega)) (And.intro (k5.g (kb_grown gr6)) M6)))
    clear hkx M M5 M6 gr6 k5 e1 hs5 hsz
    gi_wp2
    exact ⟨⟨FIN.out.1, FIN.out.2.1⟩, FIN.out.2.2.1, by rw [htk.out, abM_succ]; exact FIN.out.2.2.2⟩
  case done =>
    rintro D V0 hD ⟨hkx, M⟩ hdef
    rw [List.take_length] at M
    have hsz := hkx.size
    have hXW : Ext w V0 := Below.trans hX3 (hkx.below hX3.size (by omega) (by omega))
    have bm := hkx.at b2 (by omega) (by omega)
    have TA := Lib.hid fun V (x : Ext V0 V) => (TW.out _ _ _ _ hkx hX3 (by omega) (by omega)).ext x
    have X4 : Ext V0 ((V0.alloc (.cells #[.slice none 0 0] 30)).alloc (.cells #[.slice none 0 0] 30)) := (by repeat (first | with_reducible exact Ext.refl _ | with_reducible assumption | with_reducible apply Ext.alloc | with_reducible apply Ext.drew | (with_reducible refine Ext.setCell ?_ (by (try simp) <;> omega) _)))
    have b4_0 := block_alloc (block_new V0 (.cells #[.slice none 0 0] 30)) (.cells #[.slice none 0 0] 30)
    have b4_1 := block_at (w := (V0.alloc (.cells #[.slice none 0 0] 30))) (n := V0.heap.size + 1) (by simp) (.cells #[.slice none 0 0] 30)
    obtain ⟨W4, hW4⟩ : ∃ W, ((V0.alloc (.cells #[.slice none 0 0] 30)).alloc (.cells #[.slice none 0 0] 30)) = W := ⟨_, rfl⟩
    obtain ⟨B4, hB4⟩ : ∃ B, V0.heap.size = B := ⟨_, rfl⟩
    rw [hW4] at X4 b4_0 b4_1
    rw [hB4] at b4_0 b4_1
    have HZ4 : Hid (V0.heap.size ≤ B4) := Lib.hid (by omega)
    have HW4 := Lib.hid hW4; have HB4 := Lib.hid hB4
    clear hW4 hB4
    have hz4 : W4.heap.size = B4 + 2 := by rw [← HW4.out]; simp [HB4.out]
    have hb4 : V0.heap.size = B4 := HB4.out
    have M4 := M.ext X4
    have bm4 := block_ext X4 bm
    have hdf4 := block_ext X4 hdef
    have hD4 : D < B4 := by have := (Array.getElem?_eq_some_iff.1 hdef).1; omega
    clear hkx M bm hdef
    go_upto_region 6 with fail
    rw [HW4.out]
    clear HW4 HB4
    go_wp2_with fail
    refine (steps_walk g (a : Int) _).mono ?_
    rintro e w5 ⟨rfl, rfl⟩
    have X5 : Ext W4 ((W4.alloc (.cells #[.pointer (some ⟨g, 0, none⟩)] 62)).alloc (.cells #[.int .i64 a] 3)) := (by repeat (first | with_reducible exact Ext.refl _ | with_reducible assumption | with_reducible apply Ext.alloc | with_reducible apply Ext.drew | (with_reducible refine Ext.setCell ?_ (by (try simp) <;> omega) _)))
    have b5_0 := block_alloc (block_new W4 (.cells #[.pointer (some ⟨g, 0, none⟩)] 62)) (.cells #[.int .i64 a] 3)
    have b5_1 := block_at (w := (W4.alloc (.cells #[.pointer (some ⟨g, 0, none⟩)] 62))) (n := W4.heap.size + 1) (by simp) (.cells #[.int .i64 a] 3)
    obtain ⟨W5, hW5⟩ : ∃ W, ((W4.alloc (.cells #[.pointer (some ⟨g, 0, none⟩)] 62)).alloc (.cells #[.int .i64 a] 3)) = W := ⟨_, rfl⟩
    obtain ⟨B5, hB5⟩ : ∃ B, W4.heap.size = B := ⟨_, rfl⟩
    rw [hW5] at X5 b5_0 b5_1
    rw [hB5] at b5_0 b5_1
    have HZ5 : Hid (W4.heap.size ≤ B5) := Lib.hid (by omega)
    have HW5 := Lib.hid hW5; have HB5 := Lib.hid hB5
    clear hW5 hB5
    rw [HW5.out]
    have hz5 : W5.heap.size = B5 + 2 := by rw [← HW5.out]; simp [HB5.out]
    have hb5 : B5 = B4 + 1 + 1 := by have := HB5.out; omega
    subst hb5
    clear HW5 HB5
    have M5 := M4.ext X5
    have bm5 := block_ext X5 bm4
    have hdf5 := block_ext X5 hdf4
    have T5 := TA.out _ (X4.trans X5)
    have bo5 : Boxed W5 B4 30 (.slice none 0 0) := block_ext X5 b4_0
    have bd5 : Boxed W5 (B4 + 1) 30 (.slice none 0 0) := block_ext X5 b4_1
    have hX5 := hXW.trans (X4.trans X5)
    have hwsz := hXW.size
    have hlena := chn_len hok (n := (a : Int)) (by omega) (by omega)
    clear M4 bm4 hdf4 b4_0 b4_1 TA X4 X5
    go_wp2_with fail
    refine (wpIn_wide (n := 0)).1 ?_
    refine wpIn_rangeT_brk (gf := 83) (lb := #[.pointer (some ⟨B4 + 1 + 1 + 1, 0, none⟩), .pointer (some ⟨B4 + 1 + 1, 0, none⟩)]) rfl (enters_of Tryz.func83 (by kernel_rfl) rfl)
      (steps_iter (B4 + 1 + 1) g u q (B4 + 1 + 1 + 1) vs vn vp vc vx s G hok a (by omega) (by omega) (by omega) (by omega) (by omega) (by omega)) (fun _ => rfl)
      (fun k V => Kx B4 (B4 + 1 + 1 + 1) W5 V ∧ (∃ v, Boxed V B4 30 v ∧ OwnR V W5.heap.size 39 3 encSt v (((chn s a).take k).map St.flip)) ∧ Hid (∀ x ∈ (chn s a).take k, (!aboveB s b x.b) = true))
      (fun V => Kx B4 (B4 + 1 + 1 + 1) W5 V ∧ ∃ v, Boxed V B4 30 v ∧ OwnR V W5.heap.size 39 3 encSt v ((outL s a b).map St.flip))
      (by omega) (fun V h => h.trans b5_1)
      (fun k => (AbideT.kx (Nat.le_refl _)).and ((AbideT.exi fun v => (AbideT.boxed (by omega)).and (AbideT.own (by omega))).and (AbideT.pure _)))
      ((AbideT.kx (Nat.le_refl _)).and (AbideT.exi fun v => (AbideT.boxed (by omega)).and (AbideT.own (by omega))))
      (fun k V ⟨h1, _⟩ => ⟨h1.at b5_0 (by omega) (by omega), T5.kept (h1.kept g (by omega) (by omega) (by omega)) (h1.kept u (by omega) (by omega) (by omega)) (h1.kept q (by omega) (by omega) (by omega))⟩)
      (fun V ⟨h1, ⟨v, h2, h3⟩, h4⟩ => ⟨h1, v, h2, by unfold outL; rw [tw_all h4.out]; exact h3⟩)
      ⟨Kx.refl _ _ _, ⟨_, bo5, OwnR.nil⟩, Lib.hid (fun x hx => by simp at hx)⟩ ?round2 ?done2
    case round2 =>
      rintro lr k V hk ⟨hkx, ⟨v, bo, own⟩, HQ⟩ hle hlt'
      have hsv := hkx.size
      have htk := Lib.hid (List.take_succ_eq_append_getElem hk)
      have hcl := (chn_at hok (n := (a : Int)) (by omega) (by omega) k (by omega)).2.1 hk
      have hpb : 0 ≤ ((chn s a)[k]).b ∧ ((chn s a)[k]).b < 1000 := by
        obtain ⟨h0, -, -, h1⟩ := chn_at hok (n := (a : Int)) (by omega) (by omega) k (by omega)
        have h2 := h0.1 hk
        rw [hcl, upF_b]; omega
      obtain ⟨p, hp⟩ : ∃ p, (chn s a)[k] = p := ⟨_, rfl⟩
      have HTW : Hid ((!aboveB s b p.b) = false → outL s a b = (chn s a).take k) := Lib.hid (fun h => tw_at hk HQ.out (by rw [hp]; exact h))
      rw [hp] at htk hpb ⊢
      simp only [encS1]
      clear hcl hp
      gi_wp2
      have e1 := Ext.alloc' V (.cells #[.int .i64 p.a, .int .i64 p.b, .int .i64 p.k] 39)
      refine ⟨⟨(KeepsOthers.alloc _ _).from _, e1.block _ (by omega)⟩, fun W6 hs6 => ?_⟩
      have c0 := (hs6.cell _).trans (alloc_cell V #[.int .i64 p.a, .int .i64 p.b, .int .i64 p.k] 39 0 _ rfl)
      have c1 := (hs6.cell _).trans (alloc_cell V #[.int .i64 p.a, .int .i64 p.b, .int .i64 p.k] 39 1 _ rfl)
      have c2 := (hs6.cell _).trans (alloc_cell V #[.int .i64 p.a, .int .i64 p.b, .int .i64 p.k] 39 2 _ rfl)
      have k6 := (hkx.ext e1).put hle hs6
      have bo6 := hs6.boxed (bo.ext e1)
      have own6 := hs6.own (own.ext e1)
      have cm := block_cell (k6.at bm5 (by omega) (by omega)) 0 _ rfl
      have M6 := M5.kept (k6.kept B0 (by omega) (by omega) (by omega))
      obtain ⟨cc, hcc⟩ : ∃ c, aboveB s b p.b = c := ⟨_, rfl⟩
      have look := M6.look_bool keyedI Tryz.underlying111 Tryz.underlying4 (by kernel_rfl) (keyI (x := p.b) (by omega)) (abM_at s b p.b)
      rw [hcc] at look HTW
      have HCC := Lib.hid hcc
      have cb := bo6.cell
      have hz6 := k6.size
      have hlv : Hid (∀ i, v.ownBlock = some i → i < V.heap.size) := Lib.hid (fun i hi => (World.ownsRow.lt own i hi).2)
      have hz7 : V.heap.size < W6.heap.size := by
        have h1 := (Array.getElem?_eq_some_iff.1 (World.alloc_heap_new V (.cells #[.int .i64 p.a, .int .i64 p.b, .int .i64 p.k] 39))).1
        obtain ⟨o, o', e1, e2, e3, e4⟩ := hs6
        rw [e4]; simp
      clear hkx bo own e1 hs6 hcc M6
      cases cc with
      | true =>
        have FIN := Lib.hid (And.intro k6 (And.intro bo6 own6))
        have HOL := Lib.hid (HTW.out rfl)
        clear k6 bo6 own6
        gi_wp2
        exact ⟨⟨KeepsFrom.refl _ _, rfl⟩, rfl, FIN.out.1, _, FIN.out.2.1, by rw [HOL.out]; exact FIN.out.2.2⟩
      | false =>
        obtain ⟨va, vm, vd, rfl⟩ := own6.shape
        obtain ⟨xs0, hxs⟩ : ∃ l, ((chn s a).take k).map St.flip = l := ⟨_, rfl⟩
        have hxl : xs0.length = k := by rw [← hxs, List.length_map, List.length_take]; omega
        rw [hxs] at own6
        obtain ⟨gg, hgg⟩ : ∃ z, (Value.slice va vm vd).ownBlock = z := ⟨_, rfl⟩
        rw [hgg] at hlv
        have nb4 : some B4 ≠ gg := fun e => own6.apart_below (g := B4) (by omega) (hgg.trans e.symm)
        have nbp : some V.heap.size ≠ gg := fun e => Nat.lt_irrefl _ (hlv.out _ e.symm)
        obtain ⟨PB, hPB⟩ : ∃ z, V.heap.size = z := ⟨_, rfl⟩
        rw [hPB] at nbp c0 c1 c2 hz7
        have f0 := kb_cells cb nb4; have g0 := kb_cells c0 nbp; have g1 := kb_cells c1 nbp; have g2 := kb_cells c2 nbp
        have RW := Lib.hid fun w' => pround_walk p w'
        have HHB : Hid (∀ i, gg = some i → W5.heap.size ≤ i) := Lib.hid (fun i hi => (World.ownsRow.lt own6 i (hgg.trans hi)).1)
        have HIC := Lib.hid fun i (hi : gg = some i) => OwnR.isCells own6 i (hgg.trans hi)
        have K6 := Lib.hid k6; have BO6 := Lib.hid bo6; have OW6 := Lib.hid own6; have HGG := Lib.hid hgg; have HNB4 := Lib.hid nb4
        have HXS := Lib.hid hxs
        have HXL := Lib.hid hxl
        have HOK : Hid (∀ x ∈ (chn s a).take k, (!aboveB s b x.b) = true) := HQ
        clear cb c0 c2 k6 bo6 own6 hgg nbp hlv hxl hxs HTW
        gi_wp2_with fail
        clear look cm c1
        apply wpIn_region_ordX [(0, .det _), (1, .det _), (2, .det _),
          (3, .one (fun _ => True) (fun v w' => OwnR w' W5.heap.size 39 3 encSt (.slice va vm vd) xs0 ∧ Sl1 W5.heap.size 39 #[.int .i64 p.b, .int .i64 p.a, .int .i64 p.k] v w') undef trivial),
          (4, .one (fun _ => True) (fun v w' => OwnR w' W5.heap.size 39 3 encSt v (xs0 ++ [p.flip])) undef trivial)] 5 Ext (Kb gg) (Kb gg W6)
          (fun w' => OwnR w' W5.heap.size 39 3 encSt (.slice va vm vd) xs0) wide [(0,true),(1,true),(2,true),(3,false),(4,false)] (by kernel_rfl) (by rintro ⟨_, _, h⟩; exact h) rfl (by decide) (sub_kb gg) (stable_kb gg W6) (fun _ _ h k => h.ext k) (Kb.drawn _ _ _) (OW6.out.ext (Ext.drawn _ _)) ?main9
        case main9 =>
          iterate 2 (apply ordX_det rfl rfl; (intro w' hw'; unfold opR; go_simp; exact ⟨Ext.refl _, rfl⟩); (simp only [List.getElem_toArray, List.getElem_cons_succ, List.getElem_cons_zero, Act.put, List.setIfInBounds_toArray, List.set_cons_succ, List.set_cons_zero]; rfl))
          (apply ordX_det rfl rfl; (intro w' hw'; refine opR_call rfl (Go.Proofs.enters_of Tryz.func57 (by kernel_rfl) rfl) (by simp only [List.map_toArray, List.map_cons, List.map_nil, Act.eval, Array.getD_eq_getD_getElem?, List.getElem?_toArray, List.getElem?_cons_succ, List.getElem?_cons_zero, Option.getD_some]; rfl) ?_; refine (RW.out _).mono ?_; rintro e w'' ⟨rfl, hx⟩; exact ⟨_, rfl, hx, rfl⟩); (simp only [List.getElem_toArray, List.getElem_cons_succ, List.getElem_cons_zero, Act.put, List.setIfInBounds_toArray, List.set_cons_succ, List.set_cons_zero]; rfl))
          apply ordX_one (fun v => stable_and (fun _ _ h k => h.ext k) (stable_sl1 _ _ _ _)) rfl rfl
          · intro w' hw' hc'; unfold opR; go_simp
            exact ⟨(Ext.alloc' _ _).kb gg, by rw [← hz5]; exact hc'.alloc _, by rw [← hz5]; exact Sl1.new w' _ _ (by have := hw'.size; omega)⟩
          · intro v; (simp only [List.getElem_toArray, List.getElem_cons_succ, List.getElem_cons_zero, Act.put, List.setIfInBounds_toArray, List.set_cons_succ, List.set_cons_zero]; rfl)
          intro sv _
          apply ordX_one (fun v => (fun _ _ h k => h.ext k)) rfl rfl
          · rintro w' hw' ⟨ho, b7, rfl, hbb, hrow⟩
            refine opR_own_app et_st _ _ rfl ho rfl [p.flip] ⟨b7, 0, none⟩ 1 rfl (by simp [encSt]) (fun j u hu => row_cells hrow j u hu) (by simp [encSt, Value.oneCell']) (by rw [HXL.out]; simp; omega) (by have := hw'.size; omega) ?_
            intro v' w4 hown' hb' happ'
            exact ⟨HGG.out ▸ happ'.kb, trivial, hown'⟩
          · intro v; (simp only [List.getElem_toArray, List.getElem_cons_succ, List.getElem_cons_zero, Act.put, List.setIfInBounds_toArray, List.set_cons_succ, List.set_cons_zero]; rfl)
          intro av _
          refine ordX_nil (l := [_]) rfl ?_
          intro w9 hw9 ho9 _
          obtain ⟨ys, hys⟩ : ∃ ys, xs0 ++ [p.flip] = ys := ⟨_, rfl⟩
          have HTK : Hid (((chn s a).take (k + 1)).map St.flip = ys) := Lib.hid (by rw [htk.out, List.map_append, HXS.out]; exact hys)
          have HQ2 : Hid (∀ x ∈ (chn s a).take (k + 1), (!aboveB s b x.b) = true) := Lib.hid (fun x hx => by
            rw [htk.out] at hx
            rcases List.mem_append.1 hx with h | h
            · exact HOK.out x h
            · rw [List.mem_singleton.1 h, HCC.out]; rfl)
          rw [hys] at ho9
          obtain ⟨va', vm', vd', hav⟩ := ho9.shape
          subst hav
          have k9 := K6.out.row hw9 HHB.out
          have bo9 : Boxed w9 B4 30 (.slice va vm vd) := (hw9.kept B4 (by omega) HNB4.out).trans BO6.out
          have q9 := bo9.cell; have r9 := bo9.frozen
          have st9 : Stay (B4 + 1 + 1 + 1) W6 w9 := hw9.kept (B4 + 1 + 1 + 1) (by omega) (fun e => by have := HHB.out _ e.symm; omega)
          have FIN := Lib.hid (And.intro ((KeepsFrom.kbrow (B := W5.heap.size) hw9 HIC.out).trans (KeepsFrom.setc w9 ⟨B4, 0, none⟩ (.slice va' vm' vd') (show B4 < W5.heap.size by omega))) (And.intro ((Below.heap_setCell w9 ⟨B4, 0, none⟩ (.slice va' vm' vd') (B4 + 1 + 1 + 1) (show B4 + 1 + 1 + 1 ≠ B4 by omega)).trans st9) (And.intro (k9.set 0 (.slice va' vm' vd')) (And.intro (bo9.set (.slice va' vm' vd')) (ho9.setCell (p := ⟨B4, 0, none⟩) (ho9.apart_below (g := B4) (by omega)) (.slice va' vm' vd'))))))
          clear k9 bo9 st9 ho9 hw9 hys f0 g0 g1 g2
          go_wp2
          gi_wp2
          exact ⟨⟨FIN.out.1, FIN.out.2.1⟩, FIN.out.2.2.1, ⟨_, FIN.out.2.2.2.1, by rw [HTK.out]; exact FIN.out.2.2.2.2⟩, HQ2⟩
    case done2 =>
      rintro D2 V1 hD2 ⟨hkx, v, bo, own⟩ hdef
      have hsv := hkx.size
      have hol : (outL s a b).length ≤ 201 := Nat.le_trans (List.takeWhile_prefix _).length_le hlena
      have hmt : 0 < (outL s a b).length → ∀ h : (outL s a b).length - 1 < (outL s a b).length, meetF s a b = ((outL s a b)[(outL s a b).length - 1]).a := fun h0 h => end_last _ _ h0
      have hm0 : (outL s a b).length = 0 → meetF s a b = a := fun h0 => by unfold meetF; rw [List.length_eq_zero_iff.1 h0]; rfl
      have hwd : wayF s a b = (outL s a b).map St.flip ++ (downL s a b).reverse := rfl
      have hfl : ∀ h : (outL s a b).length - 1 < ((outL s a b).map St.flip).length, (((outL s a b).map St.flip)[(outL s a b).length - 1]'h).b = ((outL s a b)[(outL s a b).length - 1]'(by rw [List.length_map] at h; exact h)).a := fun h => by rw [List.getElem_map]; rfl
      obtain ⟨os, hos⟩ : ∃ l, (outL s a b).map St.flip = l := ⟨_, rfl⟩
      have hosl : os.length = (outL s a b).length := by rw [← hos, List.length_map]
      rw [hos] at own hwd
      have hml : 0 < os.length → ∀ h : os.length - 1 < os.length, meetF s a b = (os[os.length - 1]'h).b := fun h0 h => by
        subst hos
        rw [hmt (by omega) (by omega)]
        simp [St.flip]
      have hm1 : os.length = 0 → meetF s a b = a := fun h0 => hm0 (by omega)
      have hol : os.length ≤ 201 := by omega
      obtain ⟨mt, hmm⟩ : ∃ z, meetF s a b = z := ⟨_, rfl⟩
      have hdw : downL s a b = (chn s b).takeWhile fun p => decide (p.b ≠ mt) := by unfold downL; rw [hmm]
      rw [hmm] at hml hm1
      have HWD := Lib.hid hwd; have HDW := Lib.hid hdw; have HML := Lib.hid hml; have HM1 := Lib.hid hm1
      clear hmt hm0 hfl hwd hdw hml hm1 hmm hosl hos
      obtain ⟨va, cv, rfl, -, -, hlv⟩ := (own.sl (fun _ _ => rfl) (by omega)).len
      have TA := Lib.hid fun (V : World) (h1 : V.heap[g]? = V1.heap[g]?) (h2 : V.heap[u]? = V1.heap[u]?) (h3 : V.heap[q]? = V1.heap[q]?) => (T5.kept (w' := V1) (hkx.kept g (by omega) (by omega) (by omega)) (hkx.kept u (by omega) (by omega) (by omega)) (hkx.kept q (by omega) (by omega) (by omega))).kept h1 h2 h3
      have bd := hkx.at bd5 (by omega) (by omega)
      have hdfA := hkx.at hdf5 (by omega) (by omega)
      have hXV : Ext w V1 := Below.trans hX5 (hkx.below (by omega) (by omega) (by omega))
      have X6 : Ext V1 (V1.alloc (.cells #[.int .i64 a] 3)) := (by repeat (first | with_reducible exact Ext.refl _ | with_reducible assumption | with_reducible apply Ext.alloc | with_reducible apply Ext.drew | (with_reducible refine Ext.setCell ?_ (by (try simp) <;> omega) _)))
      have b6_0 := block_new V1 (.cells #[.int .i64 a] 3)
      obtain ⟨W6, hW6⟩ : ∃ W, (V1.alloc (.cells #[.int .i64 a] 3)) = W := ⟨_, rfl⟩
      obtain ⟨B6, hB6⟩ : ∃ B, V1.heap.size = B := ⟨_, rfl⟩
      rw [hW6] at X6 b6_0
      rw [hB6] at b6_0
      have HZ6 : Hid (V1.heap.size ≤ B6) := Lib.hid (by omega)
      have HW6 := Lib.hid hW6; have HB6 := Lib.hid hB6
      clear hW6 hB6
      have hz6 : W6.heap.size = V1.heap.size + 1 := by rw [← HW6.out]; simp
      have hb6 : V1.heap.size = B6 := HB6.out
      have bo6 := block_ext X6 bo; have bd6 := block_ext X6 bd; have hdA6 := block_ext X6 hdfA; have hdB6 := block_ext X6 hdef
      have own6 := own.ext X6
      have hX6 := hXV.trans X6
      have hD2l : D2 < V1.heap.size := (Array.getElem?_eq_some_iff.1 hdef).1
      have hrl : ∀ i, (Value.slice va os.length cv).ownBlock = some i → i < V1.heap.size := fun i hi => (World.ownsRow.lt own i hi).2
      have HND : Hid (∀ i, (Value.slice va os.length cv).ownBlock = some i → i ≠ D2) := Lib.hid fun i hi e => by
        obtain ⟨cs, e', z, hc⟩ := own.isCells i hi
        rw [e, hdef] at hc; cases hc
      have TB := Lib.hid fun V (x : Kb (some B6) W6 V) => TA.out V (by rw [x.kept g (by omega) (fun e => by have := Option.some.inj e; omega), X6.block g (by omega)]) (by rw [x.kept u (by omega) (fun e => by have := Option.some.inj e; omega), X6.block u (by omega)]) (by rw [x.kept q (by omega) (fun e => by have := Option.some.inj e; omega), X6.block q (by omega)])
      have q9 := block_cell bo6 0 (.slice va os.length cv) rfl
      have HRL := Lib.hid hrl
      have OW6 := Lib.hid own6
      have PK := Lib.hid (And.intro bo6 (And.intro bd6 (And.intro hdA6 hdB6)))
      clear hkx bo own hdef bd hdfA hXV X6 TA own6 hrl bo6 bd6 hdA6 hdB6
      have b6c := block_cell b6_0 0 _ rfl; have b6f := block_free b6_0 0
      go_upto_region 11 with fail
      rw [HW6.out]
      clear HW6 HB6
      go_upto_if 40 with fail
      go_cut [] from 38 to 47 (fun wx => wx.heap[B6]? = some (.cells #[.int .i64 mt] 3 (0, 0)) ∧ Kb (some B6) W6 wx)
      case first =>
        by_cases h0 : 0 < os.length
        · obtain ⟨n, hn⟩ : ∃ n, os.length = n + 1 := ⟨os.length - 1, by omega⟩
          obtain ⟨gr, cap, er, -, -, -⟩ := OwnR.block OW6.out (fun e => by rw [e] at h0; simp at h0)
          obtain ⟨rfl, rfl⟩ : va = some ⟨gr, 0, none⟩ ∧ cv = cap := by simpa using er
          have rc := OwnR.cell OW6.out (fun _ _ => rfl) n 1 (by omega) (by omega)
          have hme := HML.out h0 (by omega)
          have hnn : os.length - 1 = n := by omega
          have hrc : W6.cell? ⟨gr, n * 3 + 1, none⟩ = some (.int .i64 mt) := by
            rw [rc, hme]; simp only [encSt, List.getD_cons_succ, List.getD_cons_zero, hnn]
          have t1 : decide (0 < os.length) = true := decide_eq_true h0
          have E1 : IntKind.i64.wrap ((os.length : Int) - 1) = (n : Int) := by rw [hn, IntWalk.i64_in _ (by omega)]; omega
          have i1 : (0 : Int) ≤ (n : Int) := by omega
          have i2 : (n : Int) < (os.length : Int) := by omega
          have FIN := Lib.hid (And.intro (block_set b6_0 0 (.int .i64 mt)) (kb_set W6 B6 0 (.int .i64 mt)))
          clear rc hme hnn h0 hn er
          go_wp2
          go_meet
          exact FIN.out
        · obtain rfl := HM1.out (by omega)
          have FIN := Lib.hid b6_0
          obtain rfl : os = [] := List.length_eq_zero_iff.1 (by omega)
          clear h0
          go_wp2
          go_meet
          exact ⟨FIN.out, Kb.refl _ _⟩
      case rest =>
        obtain ⟨b7, K7⟩ := hcut
        obtain ⟨W7, rfl⟩ : ∃ z : World, z = wc := ⟨_, rfl⟩
        clear b6c b6f q9 b6_0
        have hsz7 := K7.size
        have hX7 : Ext w W7 := Below.trans hX6 (K7.below hX6.size (fun i e => by have := Option.some.inj e; omega))
        have X8 : Ext W7 ((W7.alloc (.cells #[.pointer (some ⟨g, 0, none⟩)] 62)).alloc (.cells #[.int .i64 b] 3)) := (by repeat (first | with_reducible exact Ext.refl _ | with_reducible assumption | with_reducible apply Ext.alloc | with_reducible apply Ext.drew | (with_reducible refine Ext.setCell ?_ (by (try simp) <;> omega) _)))
        have b8_0 := block_alloc (block_new W7 (.cells #[.pointer (some ⟨g, 0, none⟩)] 62)) (.cells #[.int .i64 b] 3)
        have b8_1 := block_at (w := (W7.alloc (.cells #[.pointer (some ⟨g, 0, none⟩)] 62))) (n := W7.heap.size + 1) (by simp) (.cells #[.int .i64 b] 3)
        obtain ⟨W8, hW8⟩ : ∃ W, ((W7.alloc (.cells #[.pointer (some ⟨g, 0, none⟩)] 62)).alloc (.cells #[.int .i64 b] 3)) = W := ⟨_, rfl⟩
        obtain ⟨B8, hB8⟩ : ∃ B, W7.heap.size = B := ⟨_, rfl⟩
        rw [hW8] at X8 b8_0 b8_1
        rw [hB8] at b8_0 b8_1
        have HZ8 : Hid (W7.heap.size ≤ B8) := Lib.hid (by omega)
        have HW8 := Lib.hid hW8; have HB8 := Lib.hid hB8
        clear hW8 hB8
        have hz8 : W8.heap.size = B8 + 2 := by rw [← HW8.out]; simp [HB8.out]
        have hb8 : W7.heap.size = B8 := HB8.out
        have b78 := block_ext X8 b7
        have bo8 := block_ext X8 (K7.at PK.out.1 (by omega)); have bd8 := block_ext X8 (K7.at PK.out.2.1 (by omega))
        have hdA8 := block_ext X8 (K7.at PK.out.2.2.1 (by omega)); have hdB8 := block_ext X8 (K7.at PK.out.2.2.2 (by omega))
        have own8 : OwnR W8 W5.heap.size 39 3 encSt (.slice va os.length cv) os := (OwnR.stays OW6.out (fun i hi => K7.kept i (by have := HRL.out i hi; omega) (fun e => by have := Option.some.inj e; have := HRL.out i hi; omega))).ext X8
        have T8 := (TB.out W7 K7).ext X8
        have hX8 := hX7.trans X8
        have PK8 := Lib.hid (And.intro b78 (And.intro bo8 (And.intro bd8 (And.intro hdA8 hdB8))))
        have OW8 := Lib.hid own8; have HT8 := Lib.hid T8
        clear PK K7 b7 b78 bo8 bd8 hdA8 hdB8 own8 T8 X8 OW6 TB
        go_wp2_with fail
        refine (steps_walk g (b : Int) _).mono ?_
        rintro e w8 ⟨rfl, rfl⟩
        rw [HW8.out]
        clear HW8 HB8
        go_wp2_with fail
        refine (wpIn_wide (n := 0)).1 ?_
        refine wpIn_rangeT_brk (gf := 83) (lb := #[.pointer (some ⟨B8 + 1, 0, none⟩), .pointer (some ⟨B8, 0, none⟩)]) rfl (enters_of Tryz.func83 (by kernel_rfl) rfl)
          (steps_iter B8 g u q (B8 + 1) vs vn vp vc vx s G hok b (by omega) (by omega) (by omega) (by omega) (by omega) (by omega)) (fun _ => rfl)
          (fun k V => Kx (B4 + 1) (B8 + 1) W8 V ∧ (∃ v, Boxed V (B4 + 1) 30 v ∧ OwnR V W8.heap.size 39 3 encSt v ((chn s b).take k)) ∧ Hid (∀ x ∈ (chn s b).take k, decide (x.b ≠ mt) = true))
          (fun V => Kx (B4 + 1) (B8 + 1) W8 V ∧ ∃ v, Boxed V (B4 + 1) 30 v ∧ OwnR V W8.heap.size 39 3 encSt v (downL s a b))
          (by omega) (fun V h => h.trans b8_1)
          (fun k => (AbideT.kx (Nat.le_refl _)).and ((AbideT.exi fun v => (AbideT.boxed (by omega)).and (AbideT.own (by omega))).and (AbideT.pure _)))
          ((AbideT.kx (Nat.le_refl _)).and (AbideT.exi fun v => (AbideT.boxed (by omega)).and (AbideT.own (by omega))))
          (fun k V ⟨h1, _⟩ => ⟨h1.at b8_0 (by omega) (by omega), HT8.out.kept (h1.kept g (by omega) (by omega) (by omega)) (h1.kept u (by omega) (by omega) (by omega)) (h1.kept q (by omega) (by omega) (by omega))⟩)
          (fun V ⟨h1, ⟨v, h2, h3⟩, h4⟩ => ⟨h1, v, h2, by rw [HDW.out, tw_all h4.out]; exact h3⟩)
          ⟨Kx.refl _ _ _, ⟨_, PK8.out.2.2.1, OwnR.nil⟩, Lib.hid (fun x hx => by simp at hx)⟩ ?round3 ?done3
        case round3 =>
          rintro lr k V hk ⟨hkx, ⟨v, bo, own⟩, HQ⟩ hle hlt'
          have hsv := hkx.size
          have htk := Lib.hid (List.take_succ_eq_append_getElem hk)
          obtain ⟨p, hp⟩ : ∃ p, (chn s b)[k] = p := ⟨_, rfl⟩
          have HTW : Hid (decide (p.b ≠ mt) = false → downL s a b = (chn s b).take k) := Lib.hid (fun h => by rw [HDW.out]; exact tw_at hk HQ.out (by rw [hp]; exact h))
          rw [hp] at htk ⊢
          simp only [encS1]
          clear hp
          gi_wp2
          have e1 := Ext.alloc' V (.cells #[.int .i64 p.a, .int .i64 p.b, .int .i64 p.k] 39)
          refine ⟨⟨(KeepsOthers.alloc _ _).from _, e1.block _ (by omega)⟩, fun W9 hs9 => ?_⟩
          have c0 := (hs9.cell _).trans (alloc_cell V #[.int .i64 p.a, .int .i64 p.b, .int .i64 p.k] 39 0 _ rfl)
          have c1 := (hs9.cell _).trans (alloc_cell V #[.int .i64 p.a, .int .i64 p.b, .int .i64 p.k] 39 1 _ rfl)
          have c2 := (hs9.cell _).trans (alloc_cell V #[.int .i64 p.a, .int .i64 p.b, .int .i64 p.k] 39 2 _ rfl)
          have k9 := (hkx.ext e1).put hle hs9
          have bo9 := hs9.boxed (bo.ext e1)
          have own9 := hs9.own (own.ext e1)
          have cm := block_cell (k9.at PK8.out.1 (by omega) (by omega)) 0 _ rfl
          have cb := bo9.cell
          have hz9 := k9.size
          have hxl : ((chn s b).take k).length = k := by rw [List.length_take]; omega
          clear hkx bo own e1 hs9
          by_cases hpm : p.b = mt
          · have FIN := Lib.hid (And.intro k9 (And.intro bo9 own9))
            have HOL := Lib.hid (HTW.out (decide_eq_false (fun h => h hpm)))
            have t1 : (p.b == mt) = true := by rw [beq_iff_eq]; exact hpm
            clear k9 bo9 own9 hpm HTW
            gi_wp2
            exact ⟨⟨KeepsFrom.refl _ _, rfl⟩, rfl, FIN.out.1, _, FIN.out.2.1, by rw [HOL.out]; exact FIN.out.2.2⟩
          · have t1 : (p.b == mt) = false := by rw [beq_eq_false_iff_ne]; exact hpm
            have HQ2 : Hid (∀ x ∈ (chn s b).take (k + 1), decide (x.b ≠ mt) = true) := Lib.hid (fun x hx => by
              rw [htk.out] at hx
              rcases List.mem_append.1 hx with h | h
              · exact HQ.out x h
              · rw [List.mem_singleton.1 h]; exact decide_eq_true hpm)
            obtain ⟨ys, hys⟩ : ∃ l, (chn s b).take k = l := ⟨_, rfl⟩
            rw [hys] at own9 htk hxl
            have HXL := Lib.hid hxl
            obtain ⟨oa, on, oc, rfl⟩ := own9.shape
            clear hpm hys hxl HTW HQ
            have K9 := Lib.hid k9
            gi_wp2_with (gi_at_builtin; go_must (refine wpListIn_of (free_round _ _) (by rintro ⟨_, _, h⟩; exact h) _ _ _ (by first | kernel_rfl | simp [noDefer]) ?_))
            go_wp2_with (at_builtin; go_must (refine wpList_own1 et_st rfl _ _ rfl own9 rfl (p : St) rfl rfl rfl (by simp [encSt, Value.oneCell']) (by rw [HXL.out]; omega) hz9 ?_; intro v' w5 hown5 hb5 happ _; obtain ⟨a', n', c', rfl⟩ := hown5.shape; obtain ⟨k1, k2, k3, k4⟩ := box_app bo9 (by decide) own9 hown5 happ; have hcl := k1.cell; have hfr := k1.frozen))
            exact ⟨⟨k4.from _, (Below.heap_setCell _ _ _ (B8 + 1) (show B8 + 1 ≠ B4 + 1 by omega)).trans (hb5.block (B8 + 1) (by omega))⟩, (K9.out.on hb5 (Nat.le_refl _)).set 0 _, ⟨_, k2, by rw [htk.out]; exact k3⟩, HQ2⟩
        case done3 =>
          rintro D3 V2 hD3 ⟨hkx, vd, bo3, own3⟩ hdef3
          have hsv2 := hkx.size
          have hdl : (downL s a b).length ≤ 201 := Nat.le_trans (List.takeWhile_prefix _).length_le hlen
          obtain ⟨dl, hdd⟩ : ∃ l, downL s a b = l := ⟨_, rfl⟩
          have HWD2 : Hid (wayF s a b = os ++ dl.reverse) := Lib.hid (by rw [HWD.out, hdd])
          rw [hdd] at own3 hdl
          clear hdd
          obtain ⟨vb, cd, rfl, -, -, hld⟩ := (own3.sl (fun _ _ => rfl) (by omega)).len
          have hro : ∀ i, (Value.slice va os.length cv).ownBlock = some i → W5.heap.size ≤ i ∧ i < B6 := fun i hi => ⟨(World.ownsRow.lt OW8.out i hi).1, by have := HRL.out i hi; omega⟩
          have ownO : OwnR V2 W5.heap.size 39 3 encSt (.slice va os.length cv) os := OwnR.stays OW8.out (fun i hi => hkx.kept i (by have := hro i hi; omega) (by have := hro i hi; omega) (by have := hro i hi; omega))
          have boO : Boxed V2 B4 30 (.slice va os.length cv) := hkx.at PK8.out.2.1 (by omega) (by omega)
          have hA := hkx.at PK8.out.2.2.2.1 (by omega) (by omega)
          have hB := hkx.at PK8.out.2.2.2.2 (by omega) (by omega)
          have hXV2 : Ext w V2 := Below.trans hX8 (hkx.below (by omega) (by omega) (by omega))
          have RV := Lib.hid (rev_walk W8.heap.size _ dl (by omega) V2 own3)
          have hrd : ∀ i, (Value.slice vb dl.length cd).ownBlock = some i → W8.heap.size ≤ i := fun i hi => (World.ownsRow.lt own3 i hi).1
          have hnd3 : ∀ i, (Value.slice vb dl.length cd).ownBlock = some i → i ≠ D3 := fun i hi e => by
            obtain ⟨cs, e', z, hc⟩ := own3.isCells i hi
            rw [e, hdef3] at hc; cases hc
          have q1 := bo3.cell
          have hl3 := (Array.getElem?_eq_some_iff.1 hdef3).1
          go_wp2_with fail
          refine RV.out.mono ?_
          rintro e V3 ⟨rfl, own3', KR⟩
          have ownO3 := OwnR.stays ownO (fun i hi => KR.kept i (by have := hro i hi; omega) (fun e => by have := hro i hi; have := hrd i e.symm; omega))
          have boO3 : Boxed V3 B4 30 (.slice va os.length cv) := (KR.kept B4 (by omega) (fun e => by have := hrd _ e.symm; omega)).trans boO
          have boD3 : Boxed V3 (B4 + 1) 30 (.slice vb dl.length cd) := (KR.kept (B4 + 1) (by omega) (fun e => by have := hrd _ e.symm; omega)).trans bo3
          have hA3 := (KR.kept D (by omega) (fun e => by have := hrd _ e.symm; omega)).trans hA
          have hB3 := (KR.kept D2 (by omega) (fun e => by have := hrd _ e.symm; omega)).trans hB
          have hC3 := (KR.kept D3 hl3 (fun e => hnd3 _ e.symm rfl)).trans hdef3
          have hXV3 : Ext w V3 := Below.trans hXV2 (KR.below hXV2.size (fun i e => by have := hrd _ e; omega))
          have S3 := own3'.sl (fun _ _ => rfl) (by rw [List.length_reverse]; omega)
          have hz3v := KR.size
          have r1 := boO3.cell; have r2 := boD3.cell
          have hrl2 : dl.reverse.length = dl.length := List.length_reverse
          obtain ⟨dr, hdr⟩ : ∃ l, dl.reverse = l := ⟨_, rfl⟩
          rw [hdr] at S3 hrl2 HWD2
          have HRL2 := Lib.hid hrl2
          clear own3' KR boO boO3 bo3 boD3 q1 hA hB hdef3 ownO own3 hdr hrl2
          go_wp2_with (at_builtin; go_must (refine wpList_own_sl et_st rfl _ _ rfl ownO3 rfl dr _ S3 rfl (fun _ _ => rfl) (by simp [encSt, Value.oneCell']) (by rw [HRL2.out]; omega) (by omega) ?_; intro v' w5 hown5 hb5 happ))
          have SF := hown5.mono (B' := w.heap.size) (by omega)
          have hXF : Ext w w5 := Below.trans hXV3 (Below.mono hb5 (by omega))
          have kA := (hb5.block D (by omega)).trans hA3
          have kB := (happ.kept D2 (by omega) (fun e => HND.out _ e.symm rfl)).trans hB3
          have kC := (happ.kept D3 (by omega) (fun e => by have := hro _ e.symm; omega)).trans hC3
          exact bodyPostM_ret3 (v := v') rfl kC kB kA (by omega) (by omega) (by omega) (fun A B C _ _ _ => by simp [results, Tryz.results24, go_sem])
            (fun A B C s3 s2 s1 => ⟨v', rfl, by rw [HWD2.out]; exact s1.own (s2.own (s3.own SF)), Below.trans (Below.trans (Below.trans hXF (s3.below (by omega))) (s2.below (by omega))) (s1.below (by omega))⟩)
end Go.Proofs.YtgfaiihekibcbaaGreatDoor
