/-
  Walks of chain: longer.
-/
import Derived.Test.YtgfaiihekibcbaaGreatDoorGpD
import Derived.Test.YtgfaiihekibcbaaGreatDoorLibG
set_option maxRecDepth 100000
set_option linter.unusedVariables false
namespace Go.Sx
open Go.RowKit
variable {P : Program}
theorem bodyPostM_marks {fn : Func} {R : Ending → World → Prop} {a : Act} {W : World} {v : Value} (Ds : List Nat) (hd : a.defers = Ds.map fun D => { target := .collected D, args := #[] }) (hn : Ds.Nodup) (hD : ∀ D ∈ Ds, W.heap[D]? = some (.deferred (some [])))
    (hr : ∀ W', (results fn a.tmps).run P W' = .ok v W') (hR : ∀ W', (∀ B, (∀ D ∈ Ds, B ≤ D) → Below B W W') → (∀ (b : Nat) (cs : Array Value) (e : TypeId) (z : Nat × Nat), W.heap[b]? = some (.cells cs e z) → W'.heap[b]? = some (.cells cs e z)) → R (.returned v) W') : bodyPostM Fence.wide 0 P fn R .ret a W := by
  show LeavesInM Fence.wide 0 P fn a.tmps R a.defers .returning W
  rw [hd]
  exact leaves_marks Ds W hn hD hr hR
theorem KeepsFrom.kbc {B : Nat} {g : Nat} {W W' : World} (k : Kb (some g) W W') (hc : ∃ cs e z, W.heap[g]? = some (.cells cs e z)) : KeepsFrom B W W' :=
  ⟨k.size, fun i o _ hi ho => by
    by_cases h : i = g
    · subst h
      obtain ⟨cs, e, z, hc⟩ := hc
      rw [hi] at hc; cases hc; cases ho
    · exact (k.kept i (Array.getElem?_eq_some_iff.1 hi).1 (fun e => h (Option.some.inj e))).trans hi⟩
theorem Bk.isc {α : Type} {w : World} {g : Nat} {e : TypeId} {enc : α → List Value} {xs : List α} (h : Bk w g e enc xs) : ∃ cs e z, w.heap[g]? = some (.cells cs e z) := by obtain ⟨cs, h, _⟩ := h; exact ⟨cs, e, _, h⟩
theorem Abide.bk {B b : Nat} {α : Type} {e : TypeId} {enc : α → List Value} {xs : List α} : Abide B (fun W => Bk W b e enc xs) :=
  ⟨fun _ _ h k => h.ext k, fun _ _ _ ⟨cs, h1, h2⟩ _ k => ⟨cs, k.cells h1, h2⟩⟩
end Go.Sx
namespace Go.Proofs.YtgfaiihekibcbaaGreatDoor
open Go.RowKit Go.Sx Go.Sx.Sz Go.Sx.Sc Go.Sx.Po Go.Sx.Ch
attribute [local go_sem] Oper.semAt_some wide_fn wide_depth

theorem Sl.rt {w : World} {a? : Option Addr} {n cap : Nat} {xs : List Rt} (h : Sl w 13 encRt (.slice a? n cap) xs) (k : Nat) (hk : k < xs.length) : ∃ b o, a? = some ⟨b, o, none⟩ ∧
    w.cell? ⟨b, o + k * 13, none⟩ = some (.int .i64 xs[k].n) ∧ (w.cell? ⟨b, o + k * 13 + 1, none⟩ = some (.int .i64 xs[k].x.a) ∧ w.cell? ⟨b, o + k * 13 + 2, none⟩ = some (.int .i64 xs[k].x.b) ∧ w.cell? ⟨b, o + k * 13 + 3, none⟩ = some (.int .i64 xs[k].x.c) ∧ w.cell? ⟨b, o + k * 13 + 4, none⟩ = some (.int .i64 xs[k].x.d) ∧ w.cell? ⟨b, o + k * 13 + 5, none⟩ = some (.int .i64 xs[k].x.e) ∧ w.cell? ⟨b, o + k * 13 + 6, none⟩ = some (.int .i64 xs[k].x.f)) ∧
      (w.cell? ⟨b, o + k * 13 + 7, none⟩ = some (.int .i64 xs[k].y.a) ∧ w.cell? ⟨b, o + k * 13 + 8, none⟩ = some (.int .i64 xs[k].y.b) ∧ w.cell? ⟨b, o + k * 13 + 9, none⟩ = some (.int .i64 xs[k].y.c) ∧ w.cell? ⟨b, o + k * 13 + 10, none⟩ = some (.int .i64 xs[k].y.d) ∧ w.cell? ⟨b, o + k * 13 + 11, none⟩ = some (.int .i64 xs[k].y.e) ∧ w.cell? ⟨b, o + k * 13 + 12, none⟩ = some (.int .i64 xs[k].y.f)) := by
  obtain ⟨b, o, e, hc⟩ := h.at (by omega) k hk
  exact ⟨b, o, e, hc 0 (by omega), ⟨hc 1 (by omega), hc 2 (by omega), hc 3 (by omega), hc 4 (by omega), hc 5 (by omega), hc 6 (by omega)⟩, hc 7 (by omega), hc 8 (by omega), hc 9 (by omega), hc 10 (by omega), hc 11 (by omega), hc 12 (by omega)⟩

set_option maxHeartbeats 8000000 in
theorem longer_walk (vg vl : Value) (N : Nat) (rows : Nat → List Ed) (ls : List (List V6)) (hN : N ≤ 1000) (hls : ls.length = N) (hE : ∀ n, ∀ e ∈ rows n, e.t < N) (hS : ∀ n, ∀ e ∈ rows n, Sml 16 e.v) (hL : ∀ l ∈ ls, l.length ≤ 2 ∧ ∀ u ∈ l, Sml 900000 u)
    (w : World) (G : GrR w vg N rows) (L : Sl w 13 encRt vl (ls.map rtOf)) :
    Calls Tryz.prog 41 #[vg, vl] w fun e w' => ∃ b, e = .returned (.slice (some ⟨b, 0, none⟩) N N) ∧ w.heap.size ≤ b ∧ Bk w' b 84 encRt ((lngL rows ls N).map rtOf) ∧ Ext w w' := by
  obtain ⟨ag, cg, rfl, -⟩ := G.len
  obtain ⟨al, cl, e, -, -, -⟩ := L.len
  rw [List.length_map, hls] at e
  subst e
  have X0 : Ext w (w.alloc (.cells #[.slice al N cl] 81)) := (by repeat (first | with_reducible exact Ext.refl _ | with_reducible assumption | with_reducible apply Ext.alloc | with_reducible apply Ext.drew | (with_reducible refine Ext.setCell ?_ (by (try simp) <;> omega) _)))
  have b0_0 := block_new w (.cells #[.slice al N cl] 81)
  obtain ⟨W0, hW0⟩ : ∃ W, (w.alloc (.cells #[.slice al N cl] 81)) = W := ⟨_, rfl⟩
  obtain ⟨B0, hB0⟩ : ∃ B, w.heap.size = B := ⟨_, rfl⟩
  rw [hW0] at X0 b0_0
  rw [hB0] at b0_0
  have HZ0 : Hid (w.heap.size ≤ B0) := Lib.hid (by omega)
  have HW0 := Lib.hid hW0; have HB0 := Lib.hid hB0
  clear hW0 hB0
  have G0 := Lib.hid G; have L0 := Lib.hid L
  have HL := Lib.hid hL; have HS := Lib.hid hS; have HE := Lib.hid hE; have HLS := Lib.hid hls
  clear G L hL hS hE hls
  refine (callsIn_wide (n := 0)).1 ?_
  refine callsIn_of_wp_marks Tryz.func41 rfl trivial ?_ rfl
  simp only [Tryz.ntmps41, List.size_toArray, List.length_cons, List.length_nil, Nat.reduceAdd, Nat.reduceSub, Array.replicate_succ, Array.replicate_zero, List.push_toArray, List.append_toArray, List.nil_append, List.cons_append]
  refine wpIn_wide.2 ?_
  go_upto_region 1 with fail
  rw [HW0.out, HB0.out]
  go_wp2_with (first | (refine wpList_mk (enc := encRt) (sz := 13) (bytes := 104) (z := .agg #[.int .i64 0, .int .i64 0, .int .i64 0, .int .i64 0, .int .i64 0, .int .i64 0, .int .i64 0, .int .i64 0, .int .i64 0, .int .i64 0, .int .i64 0, .int .i64 0, .int .i64 0]) (rtOf []) Tryz.underlying81 (by kernel_rfl) rfl rfl rfl _ _ rfl N rfl rfl (by omega) (by omega) ?_; intro cs hbk) | fail)
  have hB1 : W0.heap.size = B0 + 1 := by
    have h1 := HW0.out; have h2 := HB0.out
    rw [← h1, World.size_alloc, h2]
  rw [hB1] at hbk
  have bx := block_at (w := W0.alloc (.cells cs 84)) (n := B0 + 1 + 1) (by simp [hB1]) (.cells #[.slice (some ⟨B0 + 1, 0, none⟩) N N] 81)
  have bk1 := hbk.ext (Ext.alloc' _ (.cells #[.slice (some ⟨B0 + 1, 0, none⟩) N N] 81))
  have X1 : Ext W0 ((W0.alloc (.cells cs 84)).alloc (.cells #[.slice (some ⟨B0 + 1, 0, none⟩) N N] 81)) := (by repeat (first | with_reducible exact Ext.refl _ | with_reducible assumption | with_reducible apply Ext.alloc | with_reducible apply Ext.drew | (with_reducible refine Ext.setCell ?_ (by (try simp) <;> omega) _)))
  have hz1 : ((W0.alloc (.cells cs 84)).alloc (.cells #[.slice (some ⟨B0 + 1, 0, none⟩) N N] 81)).heap.size = B0 + 1 + 1 + 1 := by simp [hB1]
  rw [hB1]
  obtain ⟨W1, hW1⟩ : ∃ W1, (W0.alloc (.cells cs 84)).alloc (.cells #[.slice (some ⟨B0 + 1, 0, none⟩) N N] 81) = W1 := ⟨_, rfl⟩
  rw [hW1] at bx bk1 X1 hz1 ⊢
  rw [show List.replicate N (rtOf []) = (outsL rows ls N 0).map rtOf by rw [outs_zero, List.map_replicate]] at bk1
  have c3 : W1.cell? ⟨B0, 0, none⟩ = some (.slice al N cl) := block_cell (block_ext X1 b0_0) 0 _ rfl
  have c5 : W1.cell? ⟨B0 + 1 + 1, 0, none⟩ = some (.slice (some ⟨B0 + 1, 0, none⟩) N N) := block_cell bx 0 _ rfl
  have HC := Lib.hid (And.intro c3 c5)
  have HZ1 := Lib.hid hz1
  have HX1 := Lib.hid (X0.trans X1)
  have HBK := Lib.hid bk1
  have hz0 := HZ0.out
  have EW := Lib.hid fun W' (y : Kb (some (B0 + 1)) W1 W') => show Ext w W' from Below.trans (X0.trans X1) (y.below (by omega) (fun b e => by cases e; omega))
  clear hbk bx bk1 X1 hz1 hW1 c3 c5 b0_0 X0 HW0 HB0 hB1
  refine wp_loop (fun a' W => ∃ (k : Nat) (u6 u16 u17 u18 u19 u20 u21 u47 : Value) (Ds : List Nat), (u16 = .int .i64 k ∧ k ≤ N ∧ Bk W (B0 + 1) 84 encRt ((outsL rows ls N k).map rtOf) ∧ Kb (some (B0 + 1)) W1 W ∧ Ds.Nodup ∧ ∀ D ∈ Ds, W1.heap.size ≤ D ∧ W.heap[D]? = some (.deferred (some []))) ∧
    a' = { tmps := #[.slice ag N cg, .slice al N cl, undef, .pointer (some ⟨B0, 0, none⟩), .slice none 0 0, .pointer (some ⟨B0 + 1 + 1, 0, none⟩), u6, undef, undef, undef, undef, .slice ag N cg, .int .i64 N, .slice (some ⟨B0 + 1, 0, none⟩) N N, .slice ag N cg, .int .i64 N, u16, u17, u18, u19, u20, u21, undef, undef, undef, undef, undef, undef, undef, undef, undef, undef, undef, undef, undef, undef, undef, undef, undef, undef, undef, undef, undef, undef, undef, undef, undef, u47, undef], defers := Ds.map fun D => { target := .collected D, args := #[] } })
    (fun a' _ => N - (intOf (a'.tmps.getD 16 undef)).toNat) ?start ?round
  case start => exact ⟨0, undef, _, undef, undef, undef, undef, undef, undef, [], ⟨rfl, Nat.zero_le _, HBK.out, Kb.refl _ _, List.nodup_nil, fun D hD => by simp at hD⟩, rfl⟩
  case round =>
    rintro a' WA ⟨k, u6, u16, u17, u18, u19, u20, u21, u47, Ds, ⟨rfl, hk, hbk, hkb, hnd, hDs⟩, rfl⟩
    have HBK2 := Lib.hid hbk; have HKB := Lib.hid hkb; have HND := Lib.hid hnd; have HDS := Lib.hid hDs
    clear hbk hnd hDs HBK
    by_cases hlt : k < N
    · have XW := EW.out WA hkb
      have FW := Lib.hid fun w' (x : Ext WA w') => from_walk (.slice ag N cg) N k rows hlt w w' G0.out (XW.trans x)
      have hzw := hkb.size
      have hz1 := HZ1.out
      clear hkb
      go_wp2_with fail
      refine (FW.out _ (Ext.alloc' _ _)).mono ?_
      rintro e w5 ⟨rfl, v, hv, rfl⟩
      have X5 : Ext WA ((WA.alloc (.cells #[.int .i64 k] 3)).alloc (.cells #[v] 74)) := (by repeat (first | with_reducible exact Ext.refl _ | with_reducible assumption | with_reducible apply Ext.alloc | with_reducible apply Ext.drew | (with_reducible refine Ext.setCell ?_ (by (try simp) <;> omega) _)))
      have b5_0 := block_alloc (block_new WA (.cells #[.int .i64 k] 3)) (.cells #[v] 74)
      have b5_1 := block_at (w := (WA.alloc (.cells #[.int .i64 k] 3))) (n := WA.heap.size + 1) (by simp) (.cells #[v] 74)
      obtain ⟨W5, hW5⟩ : ∃ W, ((WA.alloc (.cells #[.int .i64 k] 3)).alloc (.cells #[v] 74)) = W := ⟨_, rfl⟩
      obtain ⟨B5, hB5⟩ : ∃ B, WA.heap.size = B := ⟨_, rfl⟩
      rw [hW5] at X5 b5_0 b5_1
      rw [hB5] at b5_0 b5_1
      have HZ5 : Hid (WA.heap.size ≤ B5) := Lib.hid (by omega)
      have HW5 := Lib.hid hW5; have HB5 := Lib.hid hB5
      clear hW5 hB5
      simp only [World.size_alloc]
      rw [HW5.out, HB5.out]
      have hB5 := HB5.out
      have KW := Lib.hid (HKB.out.trans (X5.kb (some (B0 + 1))))
      have HBK5 := Lib.hid (HBK2.out.ext X5)
      have HSV := Lib.hid hv
      have NX := Lib.hid fun W' (y : Kb (some (B0 + 1)) W5 W') => And.intro (EW.out W' (KW.out.trans y)) (And.intro (KW.out.trans y) (And.intro (y.at b5_0 (by omega)) (y.at b5_1 (by omega))))
      have HX5 := Lib.hid X5
      have hz5 : W5.heap.size = B5 + 1 + 1 := by have := HW5.out; rw [← this]; simp [hB5]
      have HZ5 := Lib.hid hz5
      clear hv FW HW5 HB5 X5 b5_0 b5_1 XW
      go_wp2_with fail
      refine (wpIn_wide (n := 0)).1 ?_
      refine wpIn_rangeH (gf := 94) (lb := #[.pointer (some ⟨B5 + 1, 0, none⟩)]) rfl (enters_of Tryz.func94 (by kernel_rfl) rfl) (values_iter (B5 + 1) v (rows k)) (fun _ => rfl)
        (fun j W' => Kb (some (B0 + 1)) W5 W' ∧ Bk W' (B0 + 1) 84 encRt (((outsL rows ls N k).set k (foldE ls ((rows k).take j) [])).map rtOf))
        (fun _ _ => False)
        (fun j => .and (.kb (Nat.le_refl _)) .bk) (fun c => .false) (fun j W' h => ?need) ?init ?round2 ?done ?stop
      case need =>
        obtain ⟨hx, hk1, h0, h1⟩ := NX.out W' h.1
        exact ⟨block_cell h1 0 _ rfl, HSV.out.ext hx⟩
      case init => exact ⟨Kb.refl _ _, by rw [outs_nil rows ls N k hlt]; exact HBK5.out⟩
      case stop => intro D c W' _ h; exact h.elim
      case done =>
        rintro D W' hD ⟨hkb, hbk⟩ hdef
        rw [outs_done rows ls N k hlt] at hbk
        have HF := Lib.hid hbk
        have HK := Lib.hid hkb
        have HDF := Lib.hid hdef
        have hz5 := HZ5.out
        have hz1 := HZ1.out
        clear hkb hbk hdef
        go_wp2
        refine ⟨⟨k + 1, _, _, _, _, _, _, _, _, D :: Ds, ⟨by go_num, by omega, HF.out, KW.out.trans HK.out, ?_, ?_⟩, rfl⟩, ?_⟩
        · refine List.nodup_cons.2 ⟨fun hm => ?_, HND.out⟩
          have := (HDS.out D hm).2
          have hlt2 : D < WA.heap.size := (Array.getElem?_eq_some_iff.1 this).1
          omega
        · intro E hE
          rcases List.mem_cons.1 hE with rfl | hE
          · exact ⟨by omega, HDF.out⟩
          · have h1 := HDS.out E hE
            have hlt2 : E < WA.heap.size := (Array.getElem?_eq_some_iff.1 h1.2).1
            exact ⟨h1.1, HK.out.at ((HX5.out.block E hlt2).trans h1.2) (by omega)⟩
        · simp [intOf]; omega
      case round2 =>
        rintro lr j W' hj ⟨hkb, hbk⟩ hle hlt'
        obtain ⟨p, hp⟩ : ∃ p, (rows k)[j] = p := ⟨_, rfl⟩
        rw [hp]
        simp only [encVE, edC]
        have hpm : p ∈ rows k := by rw [← hp]; exact List.getElem_mem hj
        have hpt := HE.out k p hpm
        have hlp : p.t < ls.length := by rw [HLS.out]; exact hpt
        obtain ⟨l, hl⟩ : ∃ l, ls[p.t] = l := ⟨_, rfl⟩
        have hlg : ls.getD p.t [] = l := by rw [List.getD_eq_getElem?_getD, List.getElem?_eq_getElem hlp, ← hl]; rfl
        have HLL := Lib.hid (HL.out l (by rw [← hl]; exact List.getElem_mem hlp))
        have HSP := Lib.hid (HS.out k p hpm)
        have HFN := Lib.hid (fold_next (ls := ls) hj hp hlg)
        obtain ⟨F, hF⟩ : ∃ F, foldE ls ((rows k).take j) [] = F := ⟨_, rfl⟩
        have hF2 : F.length ≤ 2 := by rw [← hF]; exact foldE_len ls _ (by simp)
        have HF2 := Lib.hid hF2
        rw [hF] at hbk HFN
        have hb0 := block_new W' (.cells (edC p) 76)
        have hx0 := Ext.alloc' W' (.cells (edC p) 76)
        obtain ⟨bE, hbE⟩ : ∃ bE, W'.heap.size = bE := ⟨_, rfl⟩
        have HBE := Lib.hid hbE
        gi_wp2
        refine ⟨(KeepsOthers.alloc _ _).from _, fun W2 hs2 _ => ?_⟩
        have hkb2 : Kb (some (B0 + 1)) W5 W2 := (Abide.kb (g := B0 + 1) (Nat.le_refl W5.heap.size)).put _ _ lr ((Abide.kb (g := B0 + 1) (Nat.le_refl W5.heap.size)).ext _ _ hkb hx0) hle hs2
        have hbk2 : Bk W2 (B0 + 1) 84 encRt (((outsL rows ls N k).set k F).map rtOf) := by
          obtain ⟨cs, h1, h2⟩ := hbk.ext hx0
          exact ⟨cs, hs2.cells h1, h2⟩
        have hbe2 := hs2.cells hb0
        rw [hbE] at hbe2
        simp only [edC] at hbe2
        have hEB : bE ≠ B0 + 1 := by have := HBE.out; have := HZ5.out; have := hkb.size; have := HZ1.out; omega
        have hlo2 : W2.heap.size ≠ 0 := by have := hkb2.size; have := HZ5.out; omega
        obtain ⟨hx2, hk12, n0, n1⟩ := NX.out W2 hkb2
        have c3 := hk12.cell HC.out.1 (by intro h; have := Option.some.inj h; simp at this)
        have e1 := block_cell hbe2 1 _ rfl
        obtain ⟨bl, ol, hal, q0, ⟨q1, q2, q3, q4, q5, q6⟩, q7, q8, q9, q10, q11, q12⟩ := Sl.rt (L0.out.ext hx2) p.t (by simpa using hlp)
        subst hal
        simp only [List.getElem_map, hl] at q0 q1 q2 q3 q4 q5 q6 q7 q8 q9 q10 q11 q12
        obtain ⟨x, hx⟩ : ∃ x, (rtOf l).x = x := ⟨_, rfl⟩
        obtain ⟨y, hy⟩ : ∃ y, (rtOf l).y = y := ⟨_, rfl⟩
        have hxy : rtOf l = ⟨l.length, x, y⟩ := by rw [← hx, ← hy]; rfl
        rw [hx] at q1 q2 q3 q4 q5 q6
        rw [hy] at q7 q8 q9 q10 q11 q12
        replace q0 : W2.cell? ⟨bl, ol + p.t * 13, none⟩ = some (.int .i64 l.length) := q0
        have X3 : Ext W2 (W2.alloc (.cells #[.int .i64 l.length, .int .i64 x.a, .int .i64 x.b, .int .i64 x.c, .int .i64 x.d, .int .i64 x.e, .int .i64 x.f, .int .i64 y.a, .int .i64 y.b, .int .i64 y.c, .int .i64 y.d, .int .i64 y.e, .int .i64 y.f] 84)) := (by repeat (first | with_reducible exact Ext.refl _ | with_reducible assumption | with_reducible apply Ext.alloc | with_reducible apply Ext.drew | (with_reducible refine Ext.setCell ?_ (by (try simp) <;> omega) _)))
        have b3_0 := block_new W2 (.cells #[.int .i64 l.length, .int .i64 x.a, .int .i64 x.b, .int .i64 x.c, .int .i64 x.d, .int .i64 x.e, .int .i64 x.f, .int .i64 y.a, .int .i64 y.b, .int .i64 y.c, .int .i64 y.d, .int .i64 y.e, .int .i64 y.f] 84)
        obtain ⟨W3, hW3⟩ : ∃ W, (W2.alloc (.cells #[.int .i64 l.length, .int .i64 x.a, .int .i64 x.b, .int .i64 x.c, .int .i64 x.d, .int .i64 x.e, .int .i64 x.f, .int .i64 y.a, .int .i64 y.b, .int .i64 y.c, .int .i64 y.d, .int .i64 y.e, .int .i64 y.f] 84)) = W := ⟨_, rfl⟩
        obtain ⟨B3, hB3⟩ : ∃ B, W2.heap.size = B := ⟨_, rfl⟩
        rw [hW3] at X3 b3_0
        rw [hB3] at b3_0
        have HZ3 : Hid (W2.heap.size ≤ B3) := Lib.hid (by omega)
        have HW3 := Lib.hid hW3; have HB3 := Lib.hid hB3
        clear hW3 hB3
        have hEB3 : B3 ≠ B0 + 1 := by have := HB3.out; have := hk12.size; have := HZ1.out; omega
        have HBK3 := Lib.hid (hbk2.ext X3)
        have HK3 := Lib.hid (hkb2.trans (X3.kb (some (B0 + 1))))
        have HKF := Lib.hid (X3.kb (some (B0 + 1)))
        have ISC := Lib.hid hbk2.isc
        have h2l := HLL.out.1
        have SL := Lib.hid (rt_sl hxy h2l b3_0)
        have HXY := Lib.hid hxy; have H2L := Lib.hid h2l
        have HB3E := Lib.hid (block_ext X3 hbe2); have HB3T := Lib.hid b3_0
        have j1 : (0 : Int) ≤ (p.t : Int) := by omega
        have j2 : (p.t : Int) < (N : Int) := by omega
        have k1 : (l.length : Int) ≤ 2 := by omega
        have k2 : (0 : Int) ≤ (l.length : Int) := by omega
        have hbE' := hbE
        clear hbk hkb hs2 hb0 hx0 hkb2 hbk2 hbe2 hbE hx2 hk12 n0 n1 b3_0 X3 hx hy hxy hp hl hlg hF hF2 hpt h2l
        gi_wp2
        rw [HW3.out, HB3.out]
        clear q0 q1 q2 q3 q4 q5 q6 q7 q8 q9 q10 q11 q12 c3 e1
        gi_loopw [34] (fun i wr => ∃ m : Nat, m ≤ l.length ∧ i = .int .i64 m ∧ Kb (some (B0 + 1)) W3 wr ∧ Bk wr (B0 + 1) 84 encRt (((outsL rows ls N k).set k (putsR p l m F)).map rtOf)) (fun i _ => l.length - (intOf i).toNat)
        case atStart => exact ⟨0, Nat.zero_le _, rfl, Kb.refl _ _, by rw [putsR_zero]; exact HBK3.out⟩
        case round =>
          obtain ⟨m, hm, rfl, hkb, hbk⟩ := hrel
          by_cases hlm : m < l.length
          · obtain ⟨b, o, e, q0, q1, q2, q3, q4, q5⟩ := Sl.vec (rt_sl HXY.out H2L.out (hkb.at HB3T.out hEB3)) m hlm
            cases e
            obtain ⟨u, hu⟩ : ∃ u, l[m] = u := ⟨_, rfl⟩
            rw [hu] at q0 q1 q2 q3 q4 q5
            have CA := Lib.hid fun w' => cadd_walk p.v u (HSP.out.mono (by omega)) ((HLL.out.2 u (by rw [← hu]; exact List.getElem_mem hlm)).mono (by omega)) w'
            have HPS := Lib.hid (putsR_succ p l hlm F)
            rw [hu] at HPS
            obtain ⟨r, hr⟩ : ∃ r, p.v.add u 1 = r := ⟨_, rfl⟩
            rw [hr] at CA HPS
            obtain ⟨-, hk1, n0, -⟩ := NX.out wr (HK3.out.trans hkb)
            have g5 := hk1.cell HC.out.2 (by intro h; have := Option.some.inj h; simp at this)
            have g6 := block_cell n0 0 _ rfl
            have hbe := hkb.at HB3E.out hEB
            have gE3 := block_cell hbe 3 _ rfl; have gE4 := block_cell hbe 4 _ rfl; have gE5 := block_cell hbe 5 _ rfl; have gE6 := block_cell hbe 6 _ rfl; have gE7 := block_cell hbe 7 _ rfl; have gE8 := block_cell hbe 8 _ rfl
            have X4 : Ext wr (wr.alloc (.cells (#[.int .i64 u.a, .int .i64 u.b, .int .i64 u.c, .int .i64 u.d, .int .i64 u.e, .int .i64 u.f] : Array Value) 32)) := (by repeat (first | with_reducible exact Ext.refl _ | with_reducible assumption | with_reducible apply Ext.alloc | with_reducible apply Ext.drew | (with_reducible refine Ext.setCell ?_ (by (try simp) <;> omega) _)))
            have b4_0 := block_new wr (.cells (#[.int .i64 u.a, .int .i64 u.b, .int .i64 u.c, .int .i64 u.d, .int .i64 u.e, .int .i64 u.f] : Array Value) 32)
            obtain ⟨W4, hW4⟩ : ∃ W, (wr.alloc (.cells (#[.int .i64 u.a, .int .i64 u.b, .int .i64 u.c, .int .i64 u.d, .int .i64 u.e, .int .i64 u.f] : Array Value) 32)) = W := ⟨_, rfl⟩
            obtain ⟨B4, hB4⟩ : ∃ B, wr.heap.size = B := ⟨_, rfl⟩
            rw [hW4] at X4 b4_0
            rw [hB4] at b4_0
            have HZ4 : Hid (wr.heap.size ≤ B4) := Lib.hid (by omega)
            have HW4 := Lib.hid hW4; have HB4 := Lib.hid hB4
            clear hW4 hB4
            have f0 := ext_cells (block_cell b4_0 0 _ rfl); have f1 := ext_cells (block_cell b4_0 1 _ rfl); have f2 := ext_cells (block_cell b4_0 2 _ rfl); have f3 := ext_cells (block_cell b4_0 3 _ rfl); have f4 := ext_cells (block_cell b4_0 4 _ rfl); have f5 := ext_cells (block_cell b4_0 5 _ rfl)
            have g5 := ext_cells (X4.cell g5); have g6 := ext_cells (X4.cell g6)
            have gE3 := ext_cells (X4.cell gE3); have gE4 := ext_cells (X4.cell gE4); have gE5 := ext_cells (X4.cell gE5); have gE6 := ext_cells (X4.cell gE6); have gE7 := ext_cells (X4.cell gE7); have gE8 := ext_cells (X4.cell gE8)
            have hkk : k < ((outsL rows ls N k).set k (putsR p l m F)).length := by rw [List.length_set, outs_len]; exact hlt
            have PW := Lib.hid fun w9 (x9 : Ext W4 w9) => put_walk (B0 + 1) k ((outsL rows ls N k).set k (putsR p l m F)) hkk r w9 (hbk.ext (X4.trans x9)) (by rw [List.getElem_set_self]; exact putsR_len p l m HF2.out)
            have HKX := Lib.hid (hkb.trans (X4.kb (some (B0 + 1))))
            have i1 : (0 : Int) ≤ (m : Int) := by omega
            have i2 : (m : Int) < (l.length : Int) := by omega
            have t1 : decide (m < l.length) = true := decide_eq_true hlm
            have j3 : (0 : Int) ≤ (k : Int) := by omega
            have j4 : (k : Int) < (N : Int) := by omega
            clear hkb hbk hu hr hk1 n0 hbe b4_0 X4
            gi_wp2_with fail
            rw [HW4.out, HB4.out]
            clear q0 q1 q2 q3 q4 q5
            refine wpIn_region_ordT (free_round _ _) [(0,true), (1,true), (2,true), (3,true), (4,true), (5,true), (6,true)] 7 Ext (Ext W4) wide (by kernel_rfl) (stable_ext _) (Ext.drawn _ _) ?_
            iterate 6 (first | (apply ordT_no rfl; rfl; (simp only [List.getElem_toArray, List.getElem_cons_succ, List.getElem_cons_zero, Act.put, List.setIfInBounds_toArray, List.set_cons_succ, List.set_cons_zero]; rfl)) | (apply ordT_yes rfl; rfl; (intro w' hw'; unfold opR; go_simp; exact ⟨Ext.refl _, rfl⟩); (simp only [List.getElem_toArray, List.getElem_cons_succ, List.getElem_cons_zero, Act.put, List.setIfInBounds_toArray, List.set_cons_succ, List.set_cons_zero]; rfl)))
            (apply ordT_det rfl rfl; (intro w' hw'; refine opR_call rfl (Go.Proofs.enters_of Tryz.func44 (by kernel_rfl) rfl) (by simp only [List.map_toArray, List.map_cons, List.map_nil, Act.eval, Array.getD_eq_getD_getElem?, List.getElem?_toArray, List.getElem?_cons_succ, List.getElem?_cons_zero, Option.getD_some]; rfl) ?_; refine (CA.out _).mono ?_; rintro e w'' ⟨rfl, hx⟩; exact ⟨_, rfl, hx, rfl⟩); (simp only [List.getElem_toArray, List.getElem_cons_succ, List.getElem_cons_zero, Act.put, List.setIfInBounds_toArray, List.set_cons_succ, List.set_cons_zero]; rfl))
            refine ordT_nil rfl ?_
            intro w9 x9
            clear f0 f1 f2 f3 f4 f5 g5 g6 gE3 gE4 gE5 gE6 gE7 gE8
            gi_wp2_with fail
            refine ((free_round _ _).calls (PW.out w9 x9)).mono ?_
            rintro e w10 ⟨rfl, hb10, hk10⟩
            rw [List.getElem_set_self, List.set_set, ← HPS.out] at hb10
            have HB10 := Lib.hid hb10
            have HK10 := Lib.hid ((HKX.out.trans (x9.kb _)).trans hk10)
            clear hb10 hk10 x9
            gi_wp2
            go_roundw
            case rel => exact ⟨m + 1, by omega, by go_num, HK10.out, HB10.out⟩
            case measure => simp [intOf]; omega
          · obtain rfl : m = l.length := by omega
            rw [HFN.out] at hbk
            have HBKF := Lib.hid hbk; have HKBF := Lib.hid hkb
            clear hbk hkb
            gi_wp2
            exact ⟨KeepsFrom.kbc (HKF.out.trans HKBF.out) ISC.out, HK3.out.trans HKBF.out, HBKF.out⟩
    · obtain rfl : k = N := by omega
      rw [outs_end] at HBK2
      have c5 := hkb.cell HC.out.2 (by intro h; have := Option.some.inj h; simp at this)
      have hle2 : ∀ D ∈ Ds, w.heap.size ≤ D := fun D hD => by have := (HDS.out D hD).1; have := HZ1.out; omega
      have HLE := Lib.hid hle2
      have HEX := Lib.hid (EW.out WA hkb)
      clear hkb hle2
      go_wp2
      refine bodyPostM_marks (v := .slice (some ⟨B0 + 1, 0, none⟩) k k) Ds rfl HND.out (fun D hD => (HDS.out D hD).2) (fun W' => by simp [results, Tryz.results41, go_sem]) (fun W' hb hc => ⟨_, rfl, by omega, ?_, Below.trans HEX.out (hb _ HLE.out)⟩)
      obtain ⟨cs', h1, h2⟩ := HBK2.out
      exact ⟨cs', hc _ _ _ _ h1, h2⟩
end Go.Proofs.YtgfaiihekibcbaaGreatDoor
