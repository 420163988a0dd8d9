/-
  Proved: 'PotentialAgreeing' returns true for every input and leaves its arguments as they were. No condition.
-/
import Derived.Test.YtdpegkkbhanjkaaDoorPoH
import Derived.Test.YtdpegkkbhanjkaaDoorR23A
import Derived.Test.YtdpegkkbhanjkaaDoorR19D
import Derived.Test.YtdpegkkbhanjkaaDoorArgL
import Derived.Test.YtdpegkkbhanjkaaDoorLdB
set_option linter.unusedVariables false
namespace Go.Proofs.YtdpegkkbhanjkaaDoor
open Go.RowKit Go.Sx Go.Sx.Sz Go.Sx.Sc Go.Sx.Po Go.ChangeShapes Go.WideShapes Go.ChangeAt

theorem et_pra : ET Tryd.prog 23 53 9 72 := .mk' (z := .agg #[.int .i64 0, .int .i64 0, .int .i64 0, .int .i64 0, .int .i64 0, .int .i64 0, .int .i64 0, .int .i64 0, .int .i64 0]) Tryd.underlying23 (by kernel_rfl) rfl (by decide) (by decide)
/-- The pair as the law gives it. -/
def agrP (s : Sc) (p : Pr) : Pr := if p.bound = 0 then ⟨p.a, p.b, (s.N p.b.toNat).x.add (s.N p.a.toNat).x (-1), p.bound⟩ else p
theorem agrS_pairs (s : Sc) : (agrS s).pairs = s.pairs.map (agrP s) := rfl
/-- The first k are given. -/
def agrK (s : Sc) (k : Nat) : List Pr := (s.pairs.take k).map (agrP s) ++ s.pairs.drop k
theorem agrK_zero (s : Sc) : agrK s 0 = s.pairs := by unfold agrK; simp
theorem agrK_end (s : Sc) : agrK s s.pairs.length = (agrS s).pairs := by unfold agrK; rw [agrS_pairs]; simp
theorem agrK_len {s : Sc} {k : Nat} (h : k ≤ s.pairs.length) : (agrK s k).length = s.pairs.length := by
  unfold agrK; rw [List.length_append, List.length_map, List.length_take, List.length_drop]; omega
theorem agrK_at {s : Sc} {k : Nat} (h : k < s.pairs.length) : (agrK s k)[k]'(by rw [agrK_len (by omega)]; exact h) = s.pairs[k] := by
  unfold agrK
  rw [List.getElem_append_right (by rw [List.length_map, List.length_take]; omega)]
  simp only [List.length_map, List.length_take, List.getElem_drop]
  congr 1
  omega
theorem agrK_set {s : Sc} {k : Nat} (h : k < s.pairs.length) : (agrK s k).set k (agrP s s.pairs[k]) = agrK s (k + 1) := by
  unfold agrK
  rw [List.set_append_right _ _ (by rw [List.length_map, List.length_take]; omega), List.take_succ_eq_append_getElem h, List.drop_eq_getElem_cons h]
  have e : k - (List.map (agrP s) (List.take k s.pairs)).length = 0 := by rw [List.length_map, List.length_take]; omega
  rw [e, List.set_cons_zero, List.map_append, List.append_assoc]; rfl
theorem agrK_no {s : Sc} {k : Nat} (h : k < s.pairs.length) (h0 : s.pairs[k].bound ≠ 0) : agrK s (k + 1) = agrK s k := by
  rw [← agrK_set h]
  have e : agrP s s.pairs[k] = (agrK s k)[k]'(by rw [agrK_len (by omega)]; exact h) := by rw [agrK_at h]; unfold agrP; rw [if_neg h0]
  rw [e, List.set_getElem_self]
theorem agr_fnd {s : Sc} {xs : List V6} {i : Nat} (hi : i < s.pairs.length) (h : brkT s xs i = false) : fndC (brkL s xs) i = -1 := by
  rcases find_cn (s := s) (xs := xs) hi with ⟨k, hk, f1, f2, f3⟩ | ⟨f1, f2⟩
  · rw [h] at f3; cases f3
  · unfold fndC; rw [f1]
/-- What the law needs of the tuned score. -/
theorem agr_facts {s : Sc} {b : V6} (ht : (tuneR (agrS s) (List.replicate ((agrS s).cads.length + 1) b)).2 = 0) :
    ScOk (agrS s) ∧ within b 48 = true ∧ (tuneR (agrS s) (List.replicate ((agrS s).cads.length + 1) b)).1.length = s.notes.length ∧ (∀ k (hk : k < (tuneR (agrS s) (List.replicate ((agrS s).cads.length + 1) b)).1.length), (tuneR (agrS s) (List.replicate ((agrS s).cads.length + 1) b)).1[k] = (s.N k).x.add b 1) ∧
    brkR (agrS s) (List.replicate ((agrS s).cads.length + 1) b) = (brkL (agrS s) (tuneR (agrS s) (List.replicate ((agrS s).cads.length + 1) b)).1, 0) ∧
    ∀ i, i < (agrS s).pairs.length → ((agrS s).P i).bound = 0 → fndC (brkL (agrS s) (tuneR (agrS s) (List.replicate ((agrS s).cads.length + 1) b)).1) i = -1 := by
  obtain ⟨hok, hx, -⟩ := tune_ok ht
  have htb : tunB (agrS s) (List.replicate ((agrS s).cads.length + 1) b) = true := by
    rcases tune_cases (agrS s) (List.replicate ((agrS s).cads.length + 1) b) with ⟨-, h, -⟩ | ⟨h, -⟩
    · exact h
    · exact absurd ht h
  obtain ⟨-, -, hw⟩ := tunB_iff.1 htb
  have hl : (List.replicate ((agrS s).cads.length + 1) b).length = (agrS s).cads.length + 1 := List.length_replicate
  have hta := tun_all hok
  have hh : ∀ k, k < (List.replicate ((agrS s).cads.length + 1) b).length → hF (List.replicate ((agrS s).cads.length + 1) b) k = b := fun k hk => by
    unfold hF
    rw [hl] at hk
    rw [List.getD_eq_getElem?_getD, List.getElem?_replicate, if_pos hk]; rfl
  have hbo : brkR (agrS s) (List.replicate ((agrS s).cads.length + 1) b) = (brkL (agrS s) (tuneR (agrS s) (List.replicate ((agrS s).cads.length + 1) b)).1, 0) := by unfold brkR; rw [if_pos ht]
  refine ⟨hok, hw b (by rw [List.mem_replicate]; exact ⟨by omega, rfl⟩), ?_, ?_, hbo, ?_⟩
  · rw [hx, xsL_len, hl, hta]; rfl
  · intro k hk
    have hk' : k < tunN (agrS s) (List.replicate ((agrS s).cads.length + 1) b).length := by rw [hx, xsL_len] at hk; exact hk
    have := agr_x hok (agr_agrees s) hh (Nat.le_refl _) k hk'
    rw [← hx] at this
    have e : pAt (tuneR (agrS s) (List.replicate ((agrS s).cads.length + 1) b)).1 (k : Int) = (tuneR (agrS s) (List.replicate ((agrS s).cads.length + 1) b)).1[k] := by
      unfold pAt
      rw [if_neg (by omega), Int.toNat_natCast, List.getD_eq_getElem?_getD, List.getElem?_eq_getElem hk]; rfl
    rw [← e, this]; rfl
  · intro i hi h0
    have := agr_none hok (agr_agrees s) hh hi h0
    rw [← hx] at this
    exact agr_fnd hi this

theorem OwnR.putWant {w : World} {B : Nat} {e : TypeId} {g n cap : Nat} {xs : List Pr} (h : OwnR w B e 9 encP (.slice (some ⟨g, 0, none⟩) n cap) xs) (k : Nat) (hk : k < xs.length) (d : V6) :
    OwnR (w.setCells g (k * 9 + 2) (V6.list d)) B e 9 encP (.slice (some ⟨g, 0, none⟩) n cap) (xs.set k ⟨xs[k].a, xs[k].b, d, xs[k].bound⟩) := by
  obtain ⟨p, hp⟩ : ∃ p, xs[k] = p := ⟨_, rfl⟩
  have h1 := OwnR.store h (fun _ _ => rfl) k 2 hk (by omega) ⟨p.a, p.b, ⟨d.a, p.want.b, p.want.c, p.want.d, p.want.e, p.want.f⟩, p.bound⟩ (.int .i64 d.a) (by rw [hp]; rfl)
  have h2 := OwnR.store h1 (fun _ _ => rfl) k 3 (by rw [List.length_set]; exact hk) (by omega) ⟨p.a, p.b, ⟨d.a, d.b, p.want.c, p.want.d, p.want.e, p.want.f⟩, p.bound⟩ (.int .i64 d.b) (by rw [List.getElem_set_self]; rfl)
  rw [List.set_set] at h2
  have h3 := OwnR.store h2 (fun _ _ => rfl) k 4 (by rw [List.length_set]; exact hk) (by omega) ⟨p.a, p.b, ⟨d.a, d.b, d.c, p.want.d, p.want.e, p.want.f⟩, p.bound⟩ (.int .i64 d.c) (by rw [List.getElem_set_self]; rfl)
  rw [List.set_set] at h3
  have h4 := OwnR.store h3 (fun _ _ => rfl) k 5 (by rw [List.length_set]; exact hk) (by omega) ⟨p.a, p.b, ⟨d.a, d.b, d.c, d.d, p.want.e, p.want.f⟩, p.bound⟩ (.int .i64 d.d) (by rw [List.getElem_set_self]; rfl)
  rw [List.set_set] at h4
  have h5 := OwnR.store h4 (fun _ _ => rfl) k 6 (by rw [List.length_set]; exact hk) (by omega) ⟨p.a, p.b, ⟨d.a, d.b, d.c, d.d, d.e, p.want.f⟩, p.bound⟩ (.int .i64 d.e) (by rw [List.getElem_set_self]; rfl)
  rw [List.set_set] at h5
  have h6 := OwnR.store h5 (fun _ _ => rfl) k 7 (by rw [List.length_set]; exact hk) (by omega) ⟨p.a, p.b, d, p.bound⟩ (.int .i64 d.f) (by rw [List.getElem_set_self]; rfl)
  rw [List.set_set] at h6
  rw [hp]
  exact h6
theorem OwnR.there {w : World} {B : Nat} {e : TypeId} {g n cap : Nat} {xs : List Pr} (h : OwnR w B e 9 encP (.slice (some ⟨g, 0, none⟩) n cap) xs) (k : Nat) (hk : k < xs.length) : w.there g (k * 9 + 2) 6 := by
  intro j hj
  obtain ⟨g', cap', e1, -, -, hf⟩ := h.block (by rintro rfl; exact absurd hk (Nat.not_lt_zero _))
  obtain ⟨rfl, -⟩ : g = g' ∧ _ := by simpa using e1
  have := h.cell (fun _ _ => rfl) k (2 + j) hk (by omega)
  rw [show k * 9 + 2 + j = k * 9 + (2 + j) by omega]
  exact ⟨by rw [this]; rfl, hf _⟩

set_option maxRecDepth 100000 in
set_option maxHeartbeats 16000000 in
theorem potagr_law (vn vp vc : Value) (s : Sc) (b : V6) (w : World) (GL : Gl 0 w) (S : ScR w vn vp vc s) :
    Calls Tryd.prog 8 #[.agg #[.int .i64 s.voices, vn, vp, vc], .agg #[.int .i64 b.a, .int .i64 b.b, .int .i64 b.c, .int .i64 b.d, .int .i64 b.e, .int .i64 b.f]] w fun e w' => e = .returned (.bool true) ∧ Ext w w' := by
  obtain ⟨an, cn, rfl, -, -, hln⟩ := S.nt.len
  obtain ⟨ap, cp, rfl, -, -, hlp⟩ := S.pr.len
  obtain ⟨ac, cc, rfl, -, -, hlc⟩ := S.cd.len
  have haf := @agr_facts s b
  have hbe : (tuneR (agrS s) (List.replicate ((agrS s).cads.length + 1) b)).2 ≠ 0 → brkR (agrS s) (List.replicate ((agrS s).cads.length + 1) b) = ([], (tuneR (agrS s) (List.replicate ((agrS s).cads.length + 1) b)).2) := fun h => by unfold brkR; rw [if_neg h]
  have htv : (agrS s).voices = s.voices := rfl
  have htn : (agrS s).notes = s.notes := rfl
  have htc : (agrS s).cads = s.cads := rfl
  have htp : (agrS s).pairs.length = s.pairs.length := List.length_map _
  have htm : ∀ k, k ≤ s.pairs.length → (agrK s k).length = s.pairs.length := fun k hk => agrK_len hk
  have X0 : Ext w ((w.alloc (.cells #[.int .i64 s.voices, .slice an s.notes.length cn, .slice ap s.pairs.length cp, .slice ac s.cads.length cc] 26)).alloc (.cells (#[.int .i64 b.a, .int .i64 b.b, .int .i64 b.c, .int .i64 b.d, .int .i64 b.e, .int .i64 b.f] : Array Value) 41)) := (by repeat (first | with_reducible exact Ext.refl _ | with_reducible assumption | with_reducible apply Ext.alloc | with_reducible apply Ext.drew | (with_reducible refine Ext.setCell ?_ (by (try simp) <;> omega) _)))
  have b0_0 := block_alloc (block_new w (.cells #[.int .i64 s.voices, .slice an s.notes.length cn, .slice ap s.pairs.length cp, .slice ac s.cads.length cc] 26)) (.cells (#[.int .i64 b.a, .int .i64 b.b, .int .i64 b.c, .int .i64 b.d, .int .i64 b.e, .int .i64 b.f] : Array Value) 41)
  have b0_1 := block_at (w := (w.alloc (.cells #[.int .i64 s.voices, .slice an s.notes.length cn, .slice ap s.pairs.length cp, .slice ac s.cads.length cc] 26))) (n := w.heap.size + 1) (by simp) (.cells (#[.int .i64 b.a, .int .i64 b.b, .int .i64 b.c, .int .i64 b.d, .int .i64 b.e, .int .i64 b.f] : Array Value) 41)
  obtain ⟨W0, hW0⟩ : ∃ W, ((w.alloc (.cells #[.int .i64 s.voices, .slice an s.notes.length cn, .slice ap s.pairs.length cp, .slice ac s.cads.length cc] 26)).alloc (.cells (#[.int .i64 b.a, .int .i64 b.b, .int .i64 b.c, .int .i64 b.d, .int .i64 b.e, .int .i64 b.f] : Array Value) 41)) = W := ⟨_, rfl⟩
  obtain ⟨B0, hB0⟩ : ∃ B, w.heap.size = B := ⟨_, rfl⟩
  rw [hW0] at X0 b0_0 b0_1
  rw [hB0] at b0_0 b0_1
  have HZ0 : Hid (w.heap.size ≤ B0) := Lib.hid (by omega)
  have HW0 := Lib.hid hW0; have HB0 := Lib.hid hB0
  clear hW0 hB0
  have CB := Lib.hid (boxS b0_0)
  have HBX := Lib.hid b0_0
  have HB1 := Lib.hid b0_1
  have HSB : Hid (w.heap.size = B0) := Lib.hid HB0.out
  have HSZ : Hid (w.heap.size + 2 = W0.heap.size) := Lib.hid (by rw [← HW0.out]; simp)
  have S1 := S.ext X0; have G1 := GL.ext X0
  have HGL := Lib.hid GL; have HS := Lib.hid S
  have HAF := Lib.hid haf; have HBE := Lib.hid hbe
  clear S GL b0_0 b0_1 haf hbe
  go_enter Tryd.func8, Tryd.ntmps8
  go_wp2_with fail
  rw [HW0.out, HB0.out]
  clear HW0 HB0
  refine (head_walk _ G1).mono ?_
  rintro e w1 ⟨rfl, x1⟩
  obtain ⟨c0, c1, c2, c3⟩ := CB.out _ x1
  go_wp2_with fail
  refine (rvalid19_walk _ _ _ s _ (S1.ext x1)).mono ?_
  obtain ⟨vb, hvb⟩ : ∃ z, scB s = z := ⟨_, rfl⟩
  rw [hvb]
  rintro e w1' ⟨rfl, y1⟩
  have x1' := x1.trans y1
  clear c0 c1 c2 c3
  obtain ⟨c0, c1, c2, c3⟩ := CB.out _ x1'
  go_wp2_with fail
  refine (rfew_walk _ _ _ s _ (S1.ext x1')).mono ?_
  obtain ⟨fw, hfw⟩ : ∃ z, (decide (s.notes.length ≤ 40) && decide (s.pairs.length ≤ 60)) = z := ⟨_, rfl⟩
  rw [hfw]
  clear hfw
  rintro e w2 ⟨rfl, y2⟩
  have x2 := x1'.trans y2
  clear c0 c1 c2 c3
  cases fw with
  | false =>
    have HX := Lib.hid (X0.trans x2)
    clear hvb
    go_wp2
    go_ret
    exact ⟨by first | rfl | simp, HX.out⟩
  | true =>
  cases vb with
  | false =>
    have HX := Lib.hid (X0.trans x2)
    clear hvb
    go_wp2
    go_ret
    exact ⟨by first | rfl | simp, HX.out⟩
  | true =>
  have hok := scB_iff.1 hvb
  have HOK := Lib.hid hok
  have hpn := hok.sz.2.2.1
  have hcn := hok.sz.2.2.2
  have hnn := hok.sz.2.1
  clear hvb hok
  have o0 : OwnR (w2.alloc (.cells #[] 53)) w2.heap.size 53 9 encP (.slice (some ⟨w2.heap.size, 0, none⟩) 0 0) [] := OwnR.lit w2 #[] [] 0 rfl (Nat.le_refl _) rfl rfl (by simp [maxLen])
  have e1 := Ext.alloc' w2 (.cells #[] 53)
  have S2 := (S1.ext x2).pr.ext e1
  have q0 := block_ext (x2.trans e1) HBX.out
  have c2 := block_cell q0 2 _ rfl
  have hz1 := e1.size
  go_wp2_with (first | (at_builtin; go_must (refine wpList_app0 et_pra rfl (.tmp 28) (.tmp 30) rfl o0 rfl s.pairs _ S2 rfl (fun _ _ => rfl) (by omega) hz1 ?_; intro v7 w3 hown3 x3 _; (obtain ⟨a7, q7, rfl⟩ := hown3.len))) | fail)
  have x23 := Lib.hid (e1.trans x3)
  have OW3 := Lib.hid hown3
  have HTM := Lib.hid htm; have HTV := Lib.hid htv; have HTN := Lib.hid htn; have HTC := Lib.hid htc; have HTP := Lib.hid htp
  clear o0 e1 S2 q0 c2 hz1 hown3 x3 htm htv htn htc htp
  go_loopw [8] (fun i wr => ∃ k : Nat, k ≤ s.pairs.length ∧ i = .int .i64 k ∧ OwnR wr w2.heap.size 53 9 encP (.slice a7 s.pairs.length q7) (agrK s k) ∧ Ext w2 wr) (fun i _ => s.pairs.length - (intOf i).toNat)
  case atStart => exact ⟨0, by omega, by first | rfl | trivial, by rw [agrK_zero]; exact OW3.out, x23.out⟩
  case round =>
    obtain ⟨k, hk, rfl, own, X⟩ := hrel
    by_cases hlt : k < s.pairs.length
    case pos =>
      have hkl : k < (agrK s k).length := by rw [HTM.out k (by omega)]; exact hlt
      obtain ⟨g, cap, he, hg1, hg2, hg3⟩ := own.block (by rintro h9; rw [h9] at hkl; exact absurd hkl (Nat.not_lt_zero _))
      obtain ⟨rfl, -, rfl⟩ : a7 = some ⟨g, 0, none⟩ ∧ s.pairs.length = (agrK s k).length ∧ q7 = cap := by simpa using he
      have a0 := own.cell (fun _ _ => rfl) k 0 hkl (by omega)
      have a1 := own.cell (fun _ _ => rfl) k 1 hkl (by omega)
      have a8 := own.cell (fun _ _ => rfl) k 8 hkl (by omega)
      have hpo := HOK.out.pr.1 k hlt
      have PW := Lib.hid fun d w' (y : Ext wr w') => OwnR.putWant (own.ext y) k hkl d
      have TH := Lib.hid fun w' (y : Ext wr w') => OwnR.there (own.ext y) k hkl
      have hst := agrK_set hlt
      have hno := @agrK_no s k hlt
      rw [agrK_at hlt] at a0 a1 a8 PW
      rw [Sc.P_eq hlt] at hpo
      obtain ⟨p, hp⟩ : ∃ p, s.pairs[k] = p := ⟨_, rfl⟩
      rw [hp] at a0 a1 a8 PW hpo hst hno
      simp only [encP, List.getD_cons_zero, List.getD_cons_succ, Nat.add_zero] at a0 a1 a8
      unfold pairOk at hpo
      obtain ⟨⟨ha0, hab⟩, hbn, -, -, -⟩ := hpo
      have HNO := Lib.hid hno; have HST := Lib.hid hst; have OWK := Lib.hid own; have HXK := Lib.hid X; have HG1 := Lib.hid hg1
      have i1 : (0 : Int) ≤ (k : Int) := by omega
      have i2 : (k : Int) < (s.pairs.length : Int) := by omega
      clear hno hst hkl he hg2 hg3 hp own
      by_cases hb0 : p.bound = 0
      case neg =>
        have t1 : (p.bound == 0) = false := by rw [beq_eq_false_iff_ne]; exact hb0
        have FIN := Lib.hid (And.intro (show OwnR wr w2.heap.size 53 9 encP (.slice (some ⟨g, 0, none⟩) s.pairs.length q7) (agrK s (k + 1)) by rw [HNO.out hb0]; exact OWK.out) X)
        clear hb0 X a0 a1 hab hbn ha0
        go_wp2
        go_roundw
        case rel => exact ⟨k + 1, by omega, by go_num, FIN.out.1, FIN.out.2⟩
        case measure => simp [intOf] <;> omega
      case pos =>
        rw [hb0] at a8
        obtain ⟨m, hm⟩ : ∃ m : Nat, p.a = m := ⟨p.a.toNat, by omega⟩
        obtain ⟨n, hn⟩ : ∃ n : Nat, p.b = n := ⟨p.b.toNat, by omega⟩
        have hml : m < s.notes.length := by omega
        have hnl : n < s.notes.length := by omega
        obtain ⟨bn, on, rfl, A⟩ := Sl.nt ((S1.ext x2).nt.ext X) m hml
        obtain ⟨_, _, e', A'⟩ := Sl.nt ((S1.ext x2).nt.ext X) n hnl
        cases e'
        rw [← Sc.N_eq hml] at A
        rw [← Sc.N_eq hnl] at A'
        have hsm : Sml 24 (s.N m).x := Sml.of (by have := HOK.out.nt.1 m hml; unfold noteOk at this; exact this.2.2.2)
        have hsn : Sml 24 (s.N n).x := Sml.of (by have := HOK.out.nt.1 n hnl; unfold noteOk at this; exact this.2.2.2)
        have hag : agrP s p = ⟨p.a, p.b, (s.N n).x.add (s.N m).x (-1), p.bound⟩ := by unfold agrP; rw [if_pos hb0, hm, hn]; rfl
        obtain ⟨y, hy⟩ : ∃ y, (s.N m).x = y := ⟨_, rfl⟩
        obtain ⟨z, hz⟩ : ∃ z, (s.N n).x = z := ⟨_, rfl⟩
        have f3 := A.c3; have f4 := A.c4; have f5 := A.c5; have f6 := A.c6; have f7 := A.c7; have f8 := A.c8
        have g3 := A'.c3; have g4 := A'.c4; have g5 := A'.c5; have g6 := A'.c6; have g7 := A'.c7; have g8 := A'.c8
        rw [hy] at hag hsm f3 f4 f5 f6 f7 f8
        rw [hz] at hag hsn g3 g4 g5 g6 g7 g8
        have ML := Lib.hid fun w' => rminus_walk z y (hsn.mono (by omega)) (hsm.mono (by omega)) w'
        obtain ⟨d, hd⟩ : ∃ d, z.add y (-1) = d := ⟨_, rfl⟩
        rw [hd] at hag ML
        have HST2 := HST.out
        rw [hag] at HST2
        have HS3 := Lib.hid HST2
        rw [hm] at a0; rw [hn] at a1
        obtain ⟨k0, k1, k2, k3⟩ := CB.out _ (x2.trans X)
        have f3 := ext_cells f3; have f4 := ext_cells f4; have f5 := ext_cells f5; have f6 := ext_cells f6; have f7 := ext_cells f7; have f8 := ext_cells f8
        have g3 := ext_cells g3; have g4 := ext_cells g4; have g5 := ext_cells g5; have g6 := ext_cells g6; have g7 := ext_cells g7; have g8 := ext_cells g8
        have j1 : (0 : Int) ≤ (m : Int) := by omega
        have j2 : (m : Int) < (s.notes.length : Int) := by omega
        have j3 : (0 : Int) ≤ (n : Int) := by omega
        have j4 : (n : Int) < (s.notes.length : Int) := by omega
        clear A A' hsm hsn hy hz hag hd HST2 hm hn ha0 hab hbn hb0
        go_upto_region 10 with fail
        have a0 := ext_cells a0; have a1 := ext_cells a1
        have k1 := ext_cells k1
        clear k0 k2 k3
        refine wp_region_ord [(0,true), (1,true), (2,true), (3,true), (4,true), (5,true), (6,true), (7,true), (8,true), (9,true), (10,true), (11,true), (12,true), (13,true), (14,true), (15,true), (16,true), (17,true), (18,true), (19,true), (20,true), (21,true), (22,true), (23,true), (24,true)] 25 Ext (Ext wr) wide (by kernel_rfl) (stable_ext _) (Ext.drawn _ _) ?_
        iterate 22 (first | (apply wpOrd_no rfl; rfl; (simp only [List.getElem_toArray, List.getElem_cons_succ, List.getElem_cons_zero, Act.put, List.setIfInBounds_toArray, List.set_cons_succ, List.set_cons_zero]; rfl)) | (apply wpOrd_yes rfl; rfl; (intro w' hw'; unfold opR; go_simp; exact ⟨Ext.refl _, rfl⟩); (simp only [List.getElem_toArray, List.getElem_cons_succ, List.getElem_cons_zero, Act.put, List.setIfInBounds_toArray, List.set_cons_succ, List.set_cons_zero]; rfl)))
        (apply wpOrd_yes rfl (by rfl); (intro w' hw'; refine opR_call rfl (Go.Proofs.enters_of Tryd.func26 (by kernel_rfl) rfl) (by simp only [List.map_toArray, List.map_cons, List.map_nil, Act.eval, Array.getD_eq_getD_getElem?, List.getElem?_toArray, List.getElem?_cons_succ, List.getElem?_cons_zero, Option.getD_some]; rfl) ?_; refine (ML.out _).mono ?_; rintro e w'' ⟨rfl, hx⟩; exact ⟨_, rfl, hx, rfl⟩); (simp only [List.getElem_toArray, List.getElem_cons_succ, List.getElem_cons_zero, Act.put, List.setIfInBounds_toArray, List.set_cons_succ, List.set_cons_zero]; rfl))
        iterate 2 (first | (apply wpOrd_no rfl; rfl; (simp only [List.getElem_toArray, List.getElem_cons_succ, List.getElem_cons_zero, Act.put, List.setIfInBounds_toArray, List.set_cons_succ, List.set_cons_zero]; rfl)) | (apply wpOrd_yes rfl; rfl; (intro w' hw'; unfold opR; go_simp; exact ⟨Ext.refl _, rfl⟩); (simp only [List.getElem_toArray, List.getElem_cons_succ, List.getElem_cons_zero, Act.put, List.setIfInBounds_toArray, List.set_cons_succ, List.set_cons_zero]; rfl)))
        refine wpOrd_nil (l := [_]) rfl ?_
        intro w9 x9
        have FIN : Hid (OwnR (w9.setCells g (k * 9 + 2) (V6.list d)) w2.heap.size 53 9 encP (.slice (some ⟨g, 0, none⟩) s.pairs.length q7) (agrK s (k + 1)) ∧ Ext w2 (w9.setCells g (k * 9 + 2) (V6.list d))) :=
          Lib.hid ⟨by rw [← HS3.out]; exact PW.out d w9 x9, setCells_ext (HXK.out.trans x9) HG1.out _ _⟩
        have TT := TH.out w9 x9
        clear a0 a1 a8 k1 f3 f4 f5 f6 f7 f8 g3 g4 g5 g6 g7 g8 x9 X
        refine wpList_store_mid rfl _ _ _ rfl g (k * 9 + 2) #[.int .i64 d.a, .int .i64 d.b, .int .i64 d.c, .int .i64 d.d, .int .i64 d.e, .int .i64 d.f] ?h1 ?h2 TT ?h3 ?h4 ?h5
        case h1 => rfl
        case h2 => rfl
        case h3 => kernel_rfl
        case h4 => simp [Value.oneCell']
        go_wp2
        go_roundw
        case rel => exact ⟨k + 1, by omega, by go_num, FIN.out.1, FIN.out.2⟩
        case measure => simp [intOf] <;> omega
    case neg =>
      obtain rfl : k = s.pairs.length := by omega
      rw [agrK_end] at own
      have hbw : B0 < w2.heap.size := by have := HSB.out; have := HSZ.out; have := x2.size; omega
      have ho := own.apart_below hbw
      have m0 := block_ext (x2.trans X) HBX.out
      have m1 := block_ext (x2.trans X) HB1.out
      have dc := block_cell m0 2 _ rfl
      have df := block_free m0 2
      have M0 := block_set m0 2 (.slice a7 s.pairs.length q7)
      have M1 := block_ne m1 (g := B0) 2 (.slice a7 s.pairs.length q7) (by omega)
      have O5 := own.stay (j := 2) ho (.slice a7 s.pairs.length q7)
      have X5 : Ext w (wr.setCell ⟨B0, 2, none⟩ (.slice a7 s.pairs.length q7)) := (X0.trans (x2.trans X)).setCell (p := ⟨B0, 2, none⟩) (by have := HSB.out; show w.heap.size ≤ B0; omega) _
      have hl3 := HTP.out
      have SP := O5.sl (fun _ _ => rfl) (by omega)
      obtain ⟨t, ht⟩ : ∃ t, agrS s = t := ⟨_, rfl⟩
      have haf := HAF.out; have hbe := HBE.out
      have hv := HTV.out; have hn := HTN.out; have hc := HTC.out; have hp := HTP.out
      rw [ht] at SP haf hbe hv hn hc hp
      have S5 : ScR (wr.setCell ⟨B0, 2, none⟩ (.slice a7 s.pairs.length q7)) (.slice an t.notes.length cn) (.slice a7 t.pairs.length q7) (.slice ac t.cads.length cc) t := ⟨by rw [hn]; exact HS.out.nt.ext X5, by rw [hp]; exact SP, by rw [hc]; exact HS.out.cd.ext X5⟩
      have M5 : (wr.setCell ⟨B0, 2, none⟩ (.slice a7 s.pairs.length q7)).heap[B0]? = some (.cells #[.int .i64 t.voices, .slice an t.notes.length cn, .slice a7 t.pairs.length q7, .slice ac t.cads.length cc] 26 (0, 0)) := by rw [hv, hn, hp, hc]; exact M0
      have G5 := HGL.out.ext X5
      have HX5 := Lib.hid X5
      have CB5 := Lib.hid (boxS M5)
      have HM1 := Lib.hid M1; have HS5 := Lib.hid S5; have HG5 := Lib.hid G5
      have HAF5 := Lib.hid haf; have HBE5 := Lib.hid hbe; have HNN := Lib.hid hn; have HPP := Lib.hid hp; have HCC := Lib.hid hc
      have hdn : t.cads.length ≤ 15 := by rw [hc]; omega
      clear own hbw ho m0 m1 M0 M1 O5 SP haf hbe hv hn hc hp S5 M5 G5 X5 hl3 X
      go_upto_region 13 with fail
      obtain ⟨w5, hw5⟩ : ∃ z, wr.setCell ⟨B0, 2, none⟩ (.slice a7 s.pairs.length q7) = z := ⟨_, rfl⟩
      rw [hw5] at HX5 CB5 HM1 HS5 HG5 ⊢
      clear hw5 dc df
      go_wp2
      go_loopw [9, 10] (fun v i wr => ∃ k : Nat, k ≤ t.cads.length + 1 ∧ i = .int .i64 k ∧ OwnR wr w5.heap.size 41 6 V6.list v (List.replicate k b) ∧ Ext w5 wr) (fun _ i _ => t.cads.length + 1 - (intOf i).toNat)
      case atStart => exact ⟨0, by omega, by first | rfl | trivial, OwnR.nil, Ext.refl _⟩
      case round =>
        obtain ⟨k, hk, rfl, own, X⟩ := hrel
        by_cases hlt : k < t.cads.length + 1
        case pos =>
          have dd := block_ext X HM1.out
          obtain ⟨k0, k1, k2, k3⟩ := CB5.out _ X
          have g0 := block_cell dd 0 _ rfl; have g1 := block_cell dd 1 _ rfl; have g2 := block_cell dd 2 _ rfl; have g3 := block_cell dd 3 _ rfl; have g4 := block_cell dd 4 _ rfl; have g5 := block_cell dd 5 _ rfl
          obtain ⟨va, vm, vd, rfl⟩ := own.shape
          have i1 : (k : Int) ≤ (t.cads.length : Int) := by omega
          have hsz := X.size
          have hrl : (List.replicate k b).length = k := List.length_replicate
          have hrs : List.replicate k b ++ [b] = List.replicate (k + 1) b := List.replicate_succ'.symm
          obtain ⟨wo, rfl⟩ : ∃ z : World, z = wr := ⟨_, rfl⟩
          obtain ⟨xs0, hx0⟩ : ∃ l, List.replicate k b = l := ⟨_, rfl⟩
          rw [hx0] at own hrl hrs
          have HRS := Lib.hid hrs; have HXX := Lib.hid X
          clear dd hx0 hrs X
          go_wp2_with (first | (at_builtin; go_must (refine wpList_own1 et_xs rfl _ _ rfl own rfl b rfl rfl rfl (by simp [V6.list, Value.oneCell']) (by omega) hsz ?_; intro v' w6 hown' hb' happ _)) | fail)
          rw [HRS.out] at hown'
          have FIN := Lib.hid (And.intro hown' (Below.trans HXX.out hb'))
          clear hown' hb' happ own g0 g1 g2 g3 g4 g5 k0 k1 k2 k3
          go_roundw
          case rel => exact ⟨k + 1, by omega, by go_num, FIN.out.1, FIN.out.2⟩
          case measure => simp [intOf] <;> omega
        case neg =>
          obtain rfl : k = t.cads.length + 1 := by omega
          obtain ⟨h, hh⟩ : ∃ h, List.replicate (t.cads.length + 1) b = h := ⟨_, rfl⟩
          have hhl : h.length = t.cads.length + 1 := by rw [← hh]; exact List.length_replicate
          have haf := HAF5.out; have hbe := HBE5.out
          rw [hh] at own haf hbe
          have SV := own.sl (fun _ _ => rfl) (by omega)
          obtain ⟨va, vm, vd, rfl⟩ := own.shape
          have TW := Lib.hid fun w' (y : Ext w5 w') => tune_walk _ _ _ (.slice va vm vd) t h w' (HS5.out.ext y)
          have BW := Lib.hid fun w' (y : Ext w5 w') => broken0_walk _ _ _ (.slice va vm vd) t h w' (HG5.out.ext y) (HS5.out.ext y)
          obtain ⟨⟨tl, te⟩, hte⟩ : ∃ z, tuneR t h = z := ⟨_, rfl⟩
          obtain ⟨⟨bl, be⟩, hbr⟩ : ∃ z, brkR t h = z := ⟨_, rfl⟩
          rw [hte] at haf hbe TW
          rw [hbr] at haf hbe BW
          simp only at haf hbe TW BW
          have HAF6 := Lib.hid haf; have HBE6 := Lib.hid hbe
          obtain ⟨c0, c1, c2, c3⟩ := CB5.out _ X
          clear own haf hbe hte hbr hh hhl HAF5 HBE5 hlt hk
          go_wp2_with fail
          refine (TW.out _ X SV).mono ?_
          rintro e w6 ⟨v6, rfl, T6, y6⟩
          have X6 := X.trans y6
          obtain ⟨a6, q6, rfl, -, -, -⟩ := T6.len
          clear c0 c1 c2 c3
          obtain ⟨c0, c1, c2, c3⟩ := CB5.out _ X6
          go_wp2_with fail
          refine (BW.out _ X6 (SV.ext y6)).mono ?_
          rintro e w7 ⟨v7, rfl, C7, y7⟩
          have X7 := X6.trans y7
          clear c0 c1 c2 c3
          obtain ⟨c0, c1, c2, c3⟩ := CB5.out _ X7
          by_cases h0 : te = 0
          case neg =>
            obtain ⟨rfl, rfl⟩ : bl = [] ∧ be = te := by simpa using HBE6.out h0
            have t1 : (be != 0) = true := by rw [bne_iff_ne]; exact h0
            have HX := Lib.hid (HX5.out.trans X7)
            clear h0
            obtain ⟨a8, q8, rfl, -, -⟩ := C7.at
            go_wp2
            go_ret
            exact ⟨by first | rfl | simp, HX.out⟩
          case pos =>
          subst h0
          obtain ⟨htk, hwb, hxl, hxa, hbb, hfn⟩ := HAF6.out rfl
          obtain ⟨rfl, rfl⟩ : bl = brkL t tl ∧ be = 0 := by simpa using hbb
          have hln2 : tl.length = t.notes.length := by rw [HNN.out]; exact hxl
          have HXL := Lib.hid hxl; have HXA := Lib.hid hxa; have HFN := Lib.hid hfn; have HTK := Lib.hid htk
          have HBS := Lib.hid (Sml.of hwb)
          have HT6 := Lib.hid (T6.ext y7); have HC7 := Lib.hid C7
          have HX7 := Lib.hid X7
          obtain ⟨a8, q8, rfl, -, -⟩ := C7.at
          have t2 : ((tl.length : Int) != (t.notes.length : Int)) = false := by rw [bne_eq_false_iff_eq]; omega
          clear X X6 X7 y6 y7 T6 C7 htk hwb hxl hxa hbb hfn SV c0 c2 c3 hln2
          go_wp2
          clear t2 c1
          go_loopw [5, 15] (fun up i wr => ∃ n : Nat, n ≤ tl.length ∧ up = .bool true ∧ i = .int .i64 n ∧ Ext w7 wr) (fun _ i _ => tl.length - (intOf i).toNat)
          case atStart => exact ⟨0, by omega, by first | rfl | trivial, by first | rfl | trivial, Ext.refl _⟩
          case round =>
            obtain ⟨n, hn, rfl, rfl, X⟩ := hrel
            have X8 := HX7.out.trans X
            by_cases hlt : n < tl.length
            case pos =>
              have hnl : n < s.notes.length := by have := HXL.out; omega
              obtain ⟨b1, o1, rfl, r0, r1, r2, r3, r4, r5⟩ := Sl.vec (HT6.out.ext X) n hlt
              rw [HXA.out n hlt] at r0 r1 r2 r3 r4 r5
              obtain ⟨bn, on, rfl, A⟩ := Sl.nt (HS.out.nt.ext (HX5.out.trans X8)) n hnl
              rw [← Sc.N_eq hnl] at A
              have hsm : Sml 24 (s.N n).x := Sml.of (by have := HOK.out.nt.1 n hnl; unfold noteOk at this; exact this.2.2.2)
              have f3 := A.c3; have f4 := A.c4; have f5 := A.c5; have f6 := A.c6; have f7 := A.c7; have f8 := A.c8
              obtain ⟨y, hy⟩ : ∃ y, (s.N n).x = y := ⟨_, rfl⟩
              rw [hy] at r0 r1 r2 r3 r4 r5 hsm f3 f4 f5 f6 f7 f8
              have PL := Lib.hid fun w' => rplus_walk y b (hsm.mono (by omega)) (HBS.out.mono (by omega)) w'
              obtain ⟨x', hx'⟩ : ∃ x', y.add b 1 = x' := ⟨_, rfl⟩
              rw [hx'] at r0 r1 r2 r3 r4 r5 PL
              have VQ : ∀ w', (Op.equalIn 10000 41 (.agg #[.int .i64 x'.a, .int .i64 x'.b, .int .i64 x'.c, .int .i64 x'.d, .int .i64 x'.e, .int .i64 x'.f]) (.agg #[.int .i64 x'.a, .int .i64 x'.b, .int .i64 x'.c, .int .i64 x'.d, .int .i64 x'.e, .int .i64 x'.f])).run Tryd.prog w' = .ok true w' := fun w' => by
                have := run_eq_v6 (P := Tryd.prog) Tryd.underlying41 Tryd.underlying3 (by kernel_rfl) x' x' 9998 w'
                rwa [decide_eq_true rfl] at this
              have dd := block_ext X8 HM1.out
              obtain ⟨c0, c1, c2, c3⟩ := CB5.out _ X8
              have c1 := ext_cells c1
              have g0 := ext_cells (block_cell dd 0 _ rfl); have g1 := ext_cells (block_cell dd 1 _ rfl); have g2 := ext_cells (block_cell dd 2 _ rfl); have g3 := ext_cells (block_cell dd 3 _ rfl); have g4 := ext_cells (block_cell dd 4 _ rfl); have g5 := ext_cells (block_cell dd 5 _ rfl)
              have r0 := ext_cells r0; have r1 := ext_cells r1; have r2 := ext_cells r2; have r3 := ext_cells r3; have r4 := ext_cells r4; have r5 := ext_cells r5
              have f3 := ext_cells f3; have f4 := ext_cells f4; have f5 := ext_cells f5; have f6 := ext_cells f6; have f7 := ext_cells f7; have f8 := ext_cells f8
              have i1 : (0 : Int) ≤ (n : Int) := by omega
              have i2 : (n : Int) < (tl.length : Int) := by omega
              have i3 : (n : Int) < (t.notes.length : Int) := by rw [HNN.out]; omega
              obtain ⟨wo, rfl⟩ : ∃ z : World, z = wr := ⟨_, rfl⟩
              clear dd hx' hy hsm A X8 c0 c2 c3
              go_wp2_with fail
              refine wp_region_ord [(0,true), (1,true), (2,true), (3,true), (4,true), (5,true), (6,true), (7,true), (8,true), (9,true), (10,true), (11,true), (12,true), (13,true), (14,true), (15,true)] 16 Ext (Ext wo) wide (by kernel_rfl) (stable_ext _) (Ext.drawn _ _) ?_
              iterate 13 (first | (apply wpOrd_no rfl; rfl; (simp only [List.getElem_toArray, List.getElem_cons_succ, List.getElem_cons_zero, Act.put, List.setIfInBounds_toArray, List.set_cons_succ, List.set_cons_zero]; rfl)) | (apply wpOrd_yes rfl; rfl; (intro w' hw'; unfold opR; go_simp; exact ⟨Ext.refl _, rfl⟩); (simp only [List.getElem_toArray, List.getElem_cons_succ, List.getElem_cons_zero, Act.put, List.setIfInBounds_toArray, List.set_cons_succ, List.set_cons_zero]; rfl)))
              (apply wpOrd_yes rfl (by rfl); (intro w' hw'; refine opR_call rfl (Go.Proofs.enters_of Tryd.func17 (by kernel_rfl) rfl) (by simp only [List.map_toArray, List.map_cons, List.map_nil, Act.eval, Array.getD_eq_getD_getElem?, List.getElem?_toArray, List.getElem?_cons_succ, List.getElem?_cons_zero, Option.getD_some]; rfl) ?_; refine (PL.out _).mono ?_; rintro e w'' ⟨rfl, hx⟩; exact ⟨_, rfl, hx, rfl⟩); (simp only [List.getElem_toArray, List.getElem_cons_succ, List.getElem_cons_zero, Act.put, List.setIfInBounds_toArray, List.set_cons_succ, List.set_cons_zero]; rfl))
              iterate 2 (first | (apply wpOrd_no rfl; rfl; (simp only [List.getElem_toArray, List.getElem_cons_succ, List.getElem_cons_zero, Act.put, List.setIfInBounds_toArray, List.set_cons_succ, List.set_cons_zero]; rfl)) | (apply wpOrd_yes rfl; rfl; (intro w' hw'; unfold opR; go_simp; exact ⟨Ext.refl _, rfl⟩); (simp only [List.getElem_toArray, List.getElem_cons_succ, List.getElem_cons_zero, Act.put, List.setIfInBounds_toArray, List.set_cons_succ, List.set_cons_zero]; rfl)))
              refine wpOrd_nil (l := [_]) rfl ?_
              intro w9 x9
              have HX9 := Lib.hid (X.trans x9)
              clear r0 r1 r2 r3 r4 r5 f3 f4 f5 f6 f7 f8 g0 g1 g2 g3 g4 g5 x9 VQ c1
              go_wp2
              go_roundw
              case rel => exact ⟨n + 1, by omega, by first | rfl | simp, by go_num, HX9.out⟩
              case measure => simp [intOf] <;> omega
            case neg =>
              obtain rfl : n = tl.length := by omega
              have HX8 := Lib.hid X8
              have HC8 := Lib.hid (HC7.out.ext X)
              clear X X8
              go_wp2
              go_loopw [5, 16] (fun up i w8 => ∃ n : Nat, n ≤ s.pairs.length ∧ up = .bool true ∧ i = .int .i64 n ∧ Ext wr w8) (fun _ i _ => s.pairs.length - (intOf i).toNat)
              case atStart => exact ⟨0, by omega, by first | rfl | trivial, by first | rfl | trivial, Ext.refl _⟩
              case round =>
                obtain ⟨n, hn, rfl, rfl, X⟩ := hrel
                have X9 := HX8.out.trans X
                by_cases hlt : n < s.pairs.length
                case neg =>
                  obtain rfl : n = s.pairs.length := by omega
                  have HX := Lib.hid (HX5.out.trans X9)
                  go_wp2
                  go_ret
                  exact ⟨by first | rfl | simp, HX.out⟩
                case pos =>
                have hpl : n < t.pairs.length := by rw [HPP.out]; exact hlt
                obtain ⟨bp, op, rfl, A⟩ := Sl.pr (HS5.out.pr.ext X9) n hpl
                rw [← Sc.P_eq hpl] at A
                have hpo := HTK.out.pr.1 n hpl
                have hfn := HFN.out n hpl
                obtain ⟨p, hp⟩ : ∃ p, t.P n = p := ⟨_, rfl⟩
                rw [hp] at A hpo hfn
                unfold pairOk at hpo
                have hb0 := hpo.2.2.2.1.1
                have a8' := A.c8
                have i1 : (0 : Int) ≤ (n : Int) := by omega
                have i2 : (n : Int) < (s.pairs.length : Int) := by omega
                clear A hp hpo
                by_cases hb : 0 < p.bound
                case pos =>
                  have t1 : decide (0 < p.bound) = true := decide_eq_true hb
                  have HXR := Lib.hid X
                  clear hfn hb hb0
                  go_wp2
                  go_roundw
                  case rel => exact ⟨n + 1, by omega, by first | rfl | simp, by go_num, HXR.out⟩
                  case measure => simp [intOf] <;> omega
                case neg =>
                  have hb1 : p.bound = 0 := by omega
                  rw [hb1] at a8'
                  have hf := hfn hb1
                  clear hfn hb hb0 hb1
                  go_wp2_with fail
                  refine (find_walk _ _ _ _ (HC8.out.ext X)).mono ?_
                  rw [hf]
                  rintro e w9 ⟨rfl, x9⟩
                  have HXR := Lib.hid (X.trans x9)
                  clear a8' x9 hf
                  go_wp2
                  go_roundw
                  case rel => exact ⟨n + 1, by omega, by first | rfl | simp, by go_num, HXR.out⟩
                  case measure => simp [intOf] <;> omega

theorem potentialAgreeing_args (H : Type) (enc : TypeId × Value → H) (W : World) (base : Nat) (vs : List Value) (ds : List (DataW H)) (_ : ∀ k, (OpenSpec.ofChange Rows.potentialAgreeingSpec).cond = some k → k H ds = true) (hL : laidMetH Tryd.prog Rows.potentialAgreeingRow.laid W) (hA : Args enc Tryd.prog W base Tryd.f8.params.toList vs ds) :
    Calls Tryd.prog 8 vs.toArray W fun e W' => e = .returned (.bool true) ∧ Ext W W' := by
  rw [Tryd.params8] at hA
  obtain ⟨v0, _, d0, _, rfl, rfl, h0, hA⟩ := hA.cons
  obtain ⟨v1, _, d1, _, rfl, rfl, h1, hA⟩ := hA.cons
  obtain ⟨rfl, rfl⟩ := hA.nil
  obtain ⟨s0, vn0, vp0, vc0, rfl, S0⟩ := arg_score h0
  obtain ⟨x1, rfl, b1⟩ := arg_vec1 h1
  exact potagr_law _ _ _ s0 x1 W (gv_of hL) S0

theorem potentialAgreeing_met (os : Os) : laidMet Tryd.prog Rows.potentialAgreeingRow.laid ((laidWorld os).forCall (fun _ _ => 0) ⟨#[], #[.agg #[.int .i64 0, .slice none 0 0, .slice none 0 0, .slice none 0 0], .agg #[.int .i64 0, .int .i64 0, .int .i64 0, .int .i64 0, .int .i64 0, .int .i64 0]], []⟩).memory := laidMet_of_run' 8 (by kernel_rfl) (by kernel_rfl)
theorem potentialAgreeing_reads (os : Os) {H : Type} (enc : TypeId × Value → H) : ∃ places, DataW.whole enc Tryd.prog ((laidWorld os).forCall (fun _ _ => 0) ⟨#[], #[.agg #[.int .i64 0, .slice none 0 0, .slice none 0 0, .slice none 0 0], .agg #[.int .i64 0, .int .i64 0, .int .i64 0, .int .i64 0, .int .i64 0, .int .i64 0]], []⟩).memory Tryd.f8.params.toList Rows.potentialAgreeingSpec.vars false #[.agg #[.int .i64 0, .slice none 0 0, .slice none 0 0, .slice none 0 0], .agg #[.int .i64 0, .int .i64 0, .int .i64 0, .int .i64 0, .int .i64 0, .int .i64 0]].toList 8 = some ([.agg [.lit (.int .i64 0), .nil, .nil, .nil], .agg [.lit (.int .i64 0), .lit (.int .i64 0), .lit (.int .i64 0), .lit (.int .i64 0), .lit (.int .i64 0), .lit (.int .i64 0)]], [], places) := ⟨[], by kernel_rfl⟩
set_option maxRecDepth 100000 in
theorem potentialAgreeing_lifted (os : Os) (started : os.Started) (H : Type) (enc : TypeId × Value → H) (F : Stop.Interp) :
    ReturnsInHanded {} Tryd.checked os 8 .any ((OpenSpec.ofChange Rows.potentialAgreeingSpec).preRow enc Tryd.prog Tryd.f8 Rows.potentialAgreeingRow.domain false Rows.potentialAgreeingRow.laid) (((OpenSpec.ofChange Rows.potentialAgreeingSpec).at F).post enc Tryd.prog Tryd.f8 false true false false) := by
  obtain ⟨places, hx⟩ := potentialAgreeing_reads os enc
  exact law_row (C := Tryd.checked) (s := (OpenSpec.ofChange Rows.potentialAgreeingSpec)) (by kernel_rfl) started (by kernel_rfl) Tryd.func8
    (witness_row_at (enc := enc) (C := Tryd.checked) false (laidWorld os) #[.agg #[.int .i64 0, .slice none 0 0, .slice none 0 0, .slice none 0 0], .agg #[.int .i64 0, .int .i64 0, .int .i64 0, .int .i64 0, .int .i64 0, .int .i64 0]] rfl (by kernel_rfl) (by kernel_rfl) (by kernel_rfl) (OpenSpec.preRow_of_cond 8 hx (by kernel_rfl) (fun k hk => by cases hk) (by kernel_rfl) (potentialAgreeing_met os)))
    (by kernel_rfl) (by kernel_rfl) (by kernel_rfl) rfl (fun ds h => by match ds, h with | [_, _], _ => rfl) (potentialAgreeing_args H enc)
theorem potentialAgreeing_said : Rows.PotentialAgreeingSaid :=
  OpenClaim.holds_of_cond 8 Tryd.f8 rfl rfl rfl rfl rfl rfl rfl ⟨rfl, rfl, rfl, rfl, rfl⟩ rfl rfl rfl rfl rfl (by kernel_rfl) Tryd.func8 (by kernel_rfl)
    (of_decide_eq_true (by kernel_rfl)) (by unfold Func.isWrapper; first | (rw [if_pos (by decide +kernel)]; kernel_rfl) | (rw [if_neg (by decide +kernel)]; exact ⟨rfl, rfl⟩))
    (fun os started H enc _ F => by rw [OpenClaim.pre_eq_preRow]; exact potentialAgreeing_lifted os started H enc F)
theorem potentialAgreeing_plain (f : FuncId) (fn : Func) (hf : Tryd.pinned.checked.prog.funcNamed "schisma/schismalaw23.PotentialAgreeing" = some f) (hfn : Tryd.pinned.checked.prog.funcs[f]? = some fn) :
    false = Tryd.pinned.checked.prog.looks [] ∧ ∀ (j : Nat) t, fn.params[j]? = some t → Tryd.pinned.checked.prog.wantsStandIn t = false := by
  obtain rfl : f = 8 := Option.some.inj ((show Tryd.prog.funcNamed "schisma/schismalaw23.PotentialAgreeing" = some 8 by kernel_rfl).symm.trans hf) |>.symm
  obtain rfl : fn = Tryd.f8 := (Option.some.inj (Tryd.func8.symm.trans hfn)).symm
  refine ⟨by kernel_rfl, fun j t ht => ?_⟩
  have hall : Tryd.f8.params.all (fun t => !Tryd.prog.wantsStandIn t) = true := by kernel_rfl
  have := (Array.all_eq_true'.1 hall) t (Array.mem_of_getElem? ht)
  have e : Tryd.prog.wantsStandIn t = false := by simpa using this
  exact e
/-- The card. -/
theorem potentialAgreeing_holds : Rows.PotentialAgreeingCardSaid :=
  Claim7.holds_tied_plain_at .later [] _ _ _ _ potentialAgreeing_said (fun _ h => by cases h) (by kernel_rfl) (fun _ h => by cases h) potentialAgreeing_row_tie rfl ⟨rfl, rfl⟩ (by kernel_rfl) rfl potentialAgreeing_plain (by kernel_rfl)
end Go.Proofs.YtdpegkkbhanjkaaDoor
