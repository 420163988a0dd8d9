/-
  Walk: align.Align.
-/
import Derived.Test.YthpfalbeieloaaaGreatDoorAlG
import Derived.Test.YthpfalbeieloaaaGreatDoorAlP
import Derived.Test.YthpfalbeieloaaaGreatDoorLibA
import Derived.Test.YthpfalbeieloaaaGreatDoorLibB
import Derived.Laws.EntriesVeiled
set_option maxRecDepth 100000
set_option linter.unusedVariables false
namespace Go.Proofs.YthpfalbeieloaaaGreatDoor
open Go.RowKit Go.Sx Go.Sx.Sz Go.Sx.Al
attribute [local go_sem] Oper.semAt_some wide_fn wide_depth

theorem tableL_eq (ds : List Due) (hs : List Hrd) (p : Prc) : tableL ds hs p = (List.range (ds.length + 1)).map fun i => rowL (hs.length + 1) (tab ds hs p i) := rfl

theorem et_m : ET Tryz.prog 54 61 2 16 := .mk' (z := .agg #[.int .i64 0, .int .i64 0]) Tryz.underlying54 (by kernel_rfl) rfl (by decide) (by decide)
/-- What Align returns. -/
def alLr (ds : List Due) (hs : List Hrd) (p : Prc) : List Mt := if alOk ds hs p = true then pathL ds hs p else []
def alCr (ds : List Due) (hs : List Hrd) (p : Prc) : Int := if alOk ds hs p = true then tab ds hs p 0 0 else 0
def alTr (ds : List Due) (hs : List Hrd) (p : Prc) : List (List Int) := if alOk ds hs p = true then tableL ds hs p else []
def alEr (ds : List Due) (hs : List Hrd) (p : Prc) : Int := if alOk ds hs p = true then 0 else 1

set_option maxRecDepth 100000 in
set_option maxHeartbeats 10000000 in
theorem align_yes (vd vh : Value) (ds : List Due) (hs : List Hrd) (p : Prc) (hn1 : ds.length * 56 ≤ 140737488351232) (hn2 : hs.length * 24 ≤ 140737488351232) (hok : alOk ds hs p = true) (w : World) (G : Gl 1 w) (Sd : Sl w 7 encD vd ds) (Sh : Sl w 3 encH vh hs) :
    Calls Tryz.prog 10 #[vd, vh, .agg #[.int .i64 p.skip, .int .i64 p.off]] w fun e w' => ∃ vl vt, e = .returned (.tuple #[vl, .int .i64 (tab ds hs p 0 0), vt, .int .i64 0]) ∧ Sl w' 2 encM vl (pathL ds hs p) ∧ Tab w' vt (tableL ds hs p) ∧ Ext w w' := by
  obtain ⟨ad, cd, rfl, -, -, -⟩ := Sd.len
  obtain ⟨ah, ch, rfl, -, -, -⟩ := Sh.len
  have HO := Lib.hid hok
  have HV := Lib.hid (alOk_iff.1 hok)
  obtain ⟨n, hn⟩ : ∃ n, ds.length = n := ⟨_, rfl⟩
  obtain ⟨m, hm⟩ : ∃ m, hs.length = m := ⟨_, rfl⟩
  have hn100 : n ≤ 100 := by rw [← hn]; exact HV.out.dn
  have hm100 : m ≤ 100 := by rw [← hm]; exact HV.out.hn
  have HVW := Lib.hid (fun w Sd Sh => alvalid_walk (.slice ad ds.length cd) (.slice ah hs.length ch) ds hs p hn1 hn2 w Sd Sh)
  have HMW := Lib.hid (fun w G Sd Sh => moves_walk (.slice ad ds.length cd) (.slice ah hs.length ch) ds hs p HV.out w G Sd Sh)
  rw [hok] at HVW
  simp only [hn, hm] at HVW HMW Sd Sh ⊢
  have HN := Lib.hid hn; have HM := Lib.hid hm
  clear hok hn hm hn1 hn2
  refine (callsIn_wide (n := 0)).1 ?_
  refine callsIn_of_wp_marks Tryz.func10 rfl trivial ?_ rfl
  simp only [Tryz.ntmps10, List.size_toArray, List.length_cons, List.length_nil, Nat.reduceAdd, Nat.reduceSub, Array.replicate_succ, Array.replicate_zero, List.push_toArray, List.append_toArray, List.nil_append, List.cons_append]
  refine wpIn_wide.2 ?_
  go_wp2_with fail
  refine (HVW.out _ (Sd.ext (by repeat (first | with_reducible exact Ext.refl _ | with_reducible assumption | with_reducible apply Ext.alloc | with_reducible apply Ext.drew | (with_reducible refine Ext.setCell ?_ (by (try simp) <;> omega) _)))) (Sh.ext (by repeat (first | with_reducible exact Ext.refl _ | with_reducible assumption | with_reducible apply Ext.alloc | with_reducible apply Ext.drew | (with_reducible refine Ext.setCell ?_ (by (try simp) <;> omega) _))))).mono ?_
  rintro e w1 ⟨rfl, x1⟩
  have b0 := block_ext x1 (block_new w (.cells #[.int .i64 p.skip, .int .i64 p.off] 30))
  have X1 : Ext w w1 := Ext.trans (by repeat (first | with_reducible exact Ext.refl _ | with_reducible assumption | with_reducible apply Ext.alloc | with_reducible apply Ext.drew | (with_reducible refine Ext.setCell ?_ (by (try simp) <;> omega) _))) x1
  have c0 := block_cell b0 0 (.int .i64 p.skip) rfl
  have c1 := block_cell b0 1 (.int .i64 p.off) rfl
  have z1 := block_lt b0
  clear x1 b0
  go_wp2_with fail
  refine (HMW.out _ ((G.ext X1).ext (by repeat (first | with_reducible exact Ext.refl _ | with_reducible assumption | with_reducible apply Ext.alloc | with_reducible apply Ext.drew | (with_reducible refine Ext.setCell ?_ (by (try simp) <;> omega) _)))) ((Sd.ext X1).ext (by repeat (first | with_reducible exact Ext.refl _ | with_reducible assumption | with_reducible apply Ext.alloc | with_reducible apply Ext.drew | (with_reducible refine Ext.setCell ?_ (by (try simp) <;> omega) _)))) ((Sh.ext X1).ext (by repeat (first | with_reducible exact Ext.refl _ | with_reducible assumption | with_reducible apply Ext.alloc | with_reducible apply Ext.drew | (with_reducible refine Ext.setCell ?_ (by (try simp) <;> omega) _))))).mono ?_
  rintro e w2 ⟨vs, pd, ph, ps, pq, pp, rfl, SM, PC, SK, x2⟩
  have X2 : Ext w w2 := X1.trans (Ext.trans (by repeat (first | with_reducible exact Ext.refl _ | with_reducible assumption | with_reducible apply Ext.alloc | with_reducible apply Ext.drew | (with_reducible refine Ext.setCell ?_ (by (try simp) <;> omega) _))) x2)
  clear x2 X1 c0 c1 z1 HVW HMW
  obtain ⟨aS, cS, e3, -, -, -⟩ := SM.len
  simp only [List.length_cons, List.length_nil, Nat.reduceAdd] at e3
  subst e3
  go_wp2_with (at_make; go_must (refine wpList_mk (e := 24) (sz := 1) (bytes := 24) (enc := fun v => [v]) (z := .slice none 0 0) (Value.slice none 0 0) Tryz.underlying55 (by kernel_rfl) rfl rfl rfl _ _ rfl (n + 1) (by rfl) (by rfl) (by omega) (by omega) ?_); intro ct hbk)
  obtain ⟨H, hH⟩ : ∃ H, w2.heap.size = H := ⟨_, rfl⟩
  obtain ⟨H1, hH1⟩ : ∃ x, H + 1 = x := ⟨_, rfl⟩
  obtain ⟨H2, hH2⟩ : ∃ x, H1 + 1 = x := ⟨_, rfl⟩
  obtain ⟨g, hg⟩ : ∃ x, H2 + 1 = x := ⟨_, rfl⟩
  obtain ⟨H4, hH4⟩ : ∃ x, g + 1 = x := ⟨_, rfl⟩
  obtain ⟨Wa, hWa⟩ : ∃ W, w2.alloc (.cells #[.int .i64 n] 3) = W := ⟨_, rfl⟩
  obtain ⟨Wb, hWb⟩ : ∃ W, Wa.alloc (.cells #[.int .i64 m] 3) = W := ⟨_, rfl⟩
  obtain ⟨Wc, hWc⟩ : ∃ W, Wb.alloc (.cells #[.slice aS 3 cS] 90) = W := ⟨_, rfl⟩
  obtain ⟨Wd, hWd⟩ : ∃ W, Wc.alloc (.cells ct 24) = W := ⟨_, rfl⟩
  have ya : Ext w2 Wa := by rw [← hWa]; exact Ext.alloc' _ _
  have yb : Ext Wa Wb := by rw [← hWb]; exact Ext.alloc' _ _
  have yc : Ext Wb Wc := by rw [← hWc]; exact Ext.alloc' _ _
  have yd : Ext Wc Wd := by rw [← hWd]; exact Ext.alloc' _ _
  have za : Wa.heap.size = H1 := by rw [← hWa, ← hH1, ← hH]; simp
  have zb : Wb.heap.size = H2 := by rw [← hWb, ← hH2, ← za]; simp
  have zc : Wc.heap.size = g := by rw [← hWc, ← hg, ← zb]; simp
  have zd : Wd.heap.size = H4 := by rw [← hWd, ← hH4, ← zc]; simp
  have ba : Boxed Wa H 3 (.int .i64 n) := by rw [← hWa, ← hH]; exact Boxed.new _ _ _
  have bb : Boxed Wb H1 3 (.int .i64 m) := by rw [← hWb, ← za]; exact Boxed.new _ _ _
  have bc : Boxed Wc H2 90 (.slice aS 3 cS) := by rw [← hWc, ← zb]; exact Boxed.new _ _ _
  have be := Boxed.new Wd 55 (.slice (some ⟨g, 0, none⟩) (n + 1) (n + 1))
  have ye := Ext.alloc' Wd (.cells #[.slice (some ⟨g, 0, none⟩) (n + 1) (n + 1)] 55)
  rw [hWa, hWb, hWc, zc, hWd] at hbk
  rw [zd] at be
  have hb0 := (((ba.ext yb).ext yc).ext yd).ext ye
  have hb1 := ((bb.ext yc).ext yd).ext ye
  have hb2 := (bc.ext yd).ext ye
  have hbk5 := hbk.alloc (.cells #[.slice (some ⟨g, 0, none⟩) (n + 1) (n + 1)] 55)
  have y5 : Ext w2 (Wd.alloc (.cells #[.slice (some ⟨g, 0, none⟩) (n + 1) (n + 1)] 55)) := ((((ya.trans yb).trans yc).trans yd).trans ye)
  obtain ⟨W5, hW5⟩ : ∃ W, Wd.alloc (.cells #[.slice (some ⟨g, 0, none⟩) (n + 1) (n + 1)] 55) = W := ⟨_, rfl⟩
  rw [hH, hH1, hH2, hg, hH4, hWa, hWb, hWc, hWd, hW5]
  have z5 : W5.heap.size = H4 + 1 := by rw [← hW5]; simp [zd]
  rw [hW5] at be hb0 hb1 hb2 hbk5 y5
  have HH := Lib.hid hH; have HH1 := Lib.hid hH1; have HH2 := Lib.hid hH2; have HG := Lib.hid hg; have HH4 := Lib.hid hH4
  clear ya yb yc yd ye za zb zc zd ba bb bc hbk hWa hWb hWc hWd hH hW5 hH1 hH2 hg hH4
  go_loopw [44] (fun i wr => ∃ k : Nat, k ≤ n + 1 ∧ i = .int .i64 k ∧ ∃ rows : List Nat, rows.length = k ∧ rows.Nodup ∧ Bk wr g 24 (fun v => [v]) (rows.map (fun r => Value.slice (some ⟨r, 0, none⟩) (m + 1) (m + 1)) ++ List.replicate (n + 1 - k) (Value.slice none 0 0))
    ∧ (∀ r ∈ rows, H4 < r ∧ Bk wr r 3 encZ (List.replicate (m + 1) 0)) ∧ Boxed wr H 3 (.int .i64 n) ∧ Boxed wr H1 3 (.int .i64 m) ∧ Boxed wr H2 90 (.slice aS 3 cS) ∧ Boxed wr H4 55 (.slice (some ⟨g, 0, none⟩) (n + 1) (n + 1)) ∧ Ext w2 wr) (fun i _ => n + 1 - (intOf i).toNat)
  case atStart => exact ⟨0, by omega, rfl, [], rfl, List.nodup_nil, by simpa using hbk5, fun r hr => by simp at hr, hb0, hb1, hb2, be, y5⟩
  case round =>
    clear hbk5 hb0 hb1 hb2 be y5
    obtain ⟨k, hk, rfl, rows, hlen, hnd, B, hrows, d0, d1, d2, d4, X⟩ := hrel
    by_cases hlt : k < n + 1
    · have hgl := B.lt
      have c4 := d4.cell
      have c1 := d1.cell
      have f13 := ext_cells c4
      have f11 := ext_cells c1
      have e1 : IntKind.i64.wrap ((m : Int) + 1) = (m : Int) + 1 := IntWalk.i64_in _ (by omega)
      have i0 : (0 : Int) ≤ (k : Int) := by omega
      have i1 : (k : Int) < ((n + 1 : Nat) : Int) := by omega
      have hset : ∀ r : Nat, (rows.map (fun r => Value.slice (some ⟨r, 0, none⟩) (m + 1) (m + 1)) ++ List.replicate (n + 1 - k) (Value.slice none 0 0)).set k (.slice (some ⟨r, 0, none⟩) (m + 1) (m + 1)) = (rows ++ [r]).map (fun r => Value.slice (some ⟨r, 0, none⟩) (m + 1) (m + 1)) ++ List.replicate (n + 1 - (k + 1)) (Value.slice none 0 0) := fun r => by
        have hl : (rows.map (fun r => Value.slice (some ⟨r, 0, none⟩) (m + 1) (m + 1))).length = k := by simp [hlen]
        rw [List.set_append_right _ _ (by omega), hl, Nat.sub_self, show n + 1 - k = (n + 1 - (k + 1)) + 1 by omega, List.replicate_succ, List.set_cons_zero, List.map_append, List.append_assoc]
        rfl
      have hll : (rows.map (fun r => Value.slice (some ⟨r, 0, none⟩) (m + 1) (m + 1)) ++ List.replicate (n + 1 - k) (Value.slice none 0 0)).length = n + 1 := by simp [hlen]; omega
      have HL := Lib.hid hlen; have HSET := Lib.hid hset; have HLL := Lib.hid hll; have HROWS := Lib.hid hrows; have HB := Lib.hid B
      have D0 := Lib.hid d0; have D1 := Lib.hid d1; have D2 := Lib.hid d2; have D4 := Lib.hid d4
      clear hlen hset hll hrows B d0 d1 d2 d4 c4 c1
      go_wp2
      apply wp_region_ordX [(0, .det _), (1, .det _), (2, .det _), (3, .det _), (4, .new (fun _ => True) (fun v w' => ∃ r, v = .slice (some ⟨r, 0, none⟩) (m + 1) (m + 1) ∧ wr.heap.size ≤ r ∧ Bk w' r 3 encZ (List.replicate (m + 1) 0)) undef trivial), (5, .det _)] 6 Ext Ext (Ext wr) (fun _ => True) wide
        [(0,true), (1,true), (2,true), (3,true), (4,true), (5,true)] (by kernel_rfl) rfl (by decide) (fun _ _ h => h) (stable_ext _) stable_true (Ext.drawn _ _) trivial ?main
      case main =>
        iterate 4 (apply ordX_det rfl rfl; (intro w' hw'; unfold opR; go_simp; exact ⟨Ext.refl _, rfl⟩); (simp only [List.getElem_toArray, List.getElem_cons_succ, List.getElem_cons_zero, Act.put, List.setIfInBounds_toArray, List.set_cons_succ, List.set_cons_zero]; rfl))
        apply ordX_new (fun v => by rintro a b ⟨r, h1, h2, h3⟩ x; exact ⟨r, h1, h2, h3.ext x⟩) rfl rfl
        · intro w' hw'
          refine opR_mk (e := 3) (sz := 1) (bytes := 8) (enc := encZ) (z := .int .i64 0) (0 : Int) Tryz.underlying24 (by kernel_rfl) rfl rfl _ _ rfl (m + 1) (by rfl) (by rfl) (by omega) (by omega) ?_
          intro cs hbk
          exact ⟨Ext.alloc' _ _, trivial, w'.heap.size, rfl, hw'.size, hbk⟩
        · intro v; (simp only [List.getElem_toArray, List.getElem_cons_succ, List.getElem_cons_zero, Act.put, List.setIfInBounds_toArray, List.set_cons_succ, List.set_cons_zero]; rfl)
        intro v4 _
        (apply ordX_det rfl rfl; (intro w' hw'; unfold opR; go_simp; exact ⟨Ext.refl _, rfl⟩); (simp only [List.getElem_toArray, List.getElem_cons_succ, List.getElem_cons_zero, Act.put, List.setIfInBounds_toArray, List.set_cons_succ, List.set_cons_zero]; rfl))
        refine ordX_nil rfl ?_
        rintro w3 hw3 - ⟨-, r, rfl, hr, hbr⟩
        have B3 := HB.out.ext hw3
        obtain ⟨z0, e0⟩ := B3.ex0 (sz := 1) (fun _ _ => rfl) k (by rw [HLL.out]; omega) (by omega)
        have g0 := B3.free k
        have hput := B3.put (sz := 1) (fun _ _ => rfl) (.slice (some ⟨r, 0, none⟩) (m + 1) (m + 1)) rfl k (by rw [HLL.out]; omega)
        rw [HSET.out r] at hput
        rw [Nat.mul_one] at e0 hput
        have hgr : g ≠ r := by omega
        have X3 := X.trans hw3
        have hg2 : w2.heap.size ≤ g := by have := HH.out; have := HH1.out; have := HH2.out; have := HG.out; omega
        have HP := Lib.hid hput
        have HBR := Lib.hid (hbr.ne ⟨g, k, none⟩ (.slice (some ⟨r, 0, none⟩) (m + 1) (m + 1)) (fun h => hgr h.symm))
        have hD : ∀ {b : Nat} {t : TypeId} {v : Value}, Boxed wr b t v → b ≠ g → Boxed (w3.setCell ⟨g, k, none⟩ (.slice (some ⟨r, 0, none⟩) (m + 1) (m + 1))) b t v := fun h hb => (h.ext hw3).set' hb _
        have n0 : H ≠ g := by have := HH1.out; have := HH2.out; have := HG.out; omega
        have n1 : H1 ≠ g := by have := HH2.out; have := HG.out; omega
        have n2 : H2 ≠ g := by have := HG.out; omega
        have n4 : H4 ≠ g := by have := HH4.out; omega
        have E0 := Lib.hid (hD D0.out n0); have E1 := Lib.hid (hD D1.out n1); have E2 := Lib.hid (hD D2.out n2); have E4 := Lib.hid (hD D4.out n4)
        have XF := Lib.hid (X3.setCell (p := ⟨g, k, none⟩) hg2 (.slice (some ⟨r, 0, none⟩) (m + 1) (m + 1)))
        have hsz4 := D4.out.lt
        have HR : Hid (∀ q ∈ rows ++ [r], H4 < q ∧ Bk (w3.setCell ⟨g, k, none⟩ (.slice (some ⟨r, 0, none⟩) (m + 1) (m + 1))) q 3 encZ (List.replicate (m + 1) 0)) := Lib.hid fun q hq => by
          rw [List.mem_append, List.mem_singleton] at hq
          rcases hq with hq | rfl
          · obtain ⟨a1, a2⟩ := HROWS.out q hq
            have := HH4.out
            exact ⟨a1, (a2.ext hw3).ne _ _ (by simp; omega)⟩
          · exact ⟨by omega, HBR.out⟩
        have HN2 : Hid ((rows ++ [r]).Nodup) := Lib.hid (by
          rw [List.nodup_append]
          refine ⟨hnd, by simp, fun a ha b hb => ?_⟩
          rw [List.mem_singleton] at hb
          subst hb
          have := (HROWS.out a ha).2.lt
          omega)
        clear f13 f11 e1 hput hbr B3 X3 hw3 hD HB D0 D1 D2 D4 HROWS
        go_wp2
        go_roundw
        case rel => exact ⟨k + 1, by omega, by go_num, rows ++ [r], by rw [List.length_append, HL.out]; rfl, HN2.out, HP.out, HR.out, E0.out, E1.out, E2.out, E4.out, XF.out⟩
        case measure => simp [intOf]; omega
    · obtain rfl : k = n + 1 := by omega
      rw [Nat.sub_self, List.replicate_zero, List.append_nil] at B
      have M0 : Mat (H4 + 1) g rows (m + 1) (fun _ _ => 0) wr := by
        obtain ⟨cs, b1, b2⟩ := B
        refine ⟨⟨cs, b1, by rw [b2, List.flatMap_map]; rfl⟩, hnd, fun r hr => ?_, fun i h => ?_⟩
        · have := (hrows r hr).1
          have := HH4.out
          exact ⟨by omega, by omega⟩
        · have := (hrows rows[i] (List.getElem_mem h)).2
          have e : rowL (m + 1) (fun _ => (0 : Int)) = List.replicate (m + 1) 0 := by
            apply List.ext_getElem (by simp [rowL])
            intro a h1 h2
            rw [rowL_get _ _ _ h1, List.getElem_replicate]
          rw [e]; exact this
      have hrl : rows.length = n + 1 := hlen
      have HRL := Lib.hid hrl
      clear B hrows hnd hlen hrl
      have c0 := d0.cell; have c1 := d1.cell
      have l0 := d0.lt; have l1 := d1.lt
      have k0 : ¬ H = wr.heap.size := by omega
      have k1 : ¬ H1 = wr.heap.size := by omega
      have hmm := @run_makeMap Tryz.prog
      have D0 := Lib.hid d0; have D1 := Lib.hid d1; have D2 := Lib.hid d2; have D4 := Lib.hid d4
      clear d0 d1 d2 d4
      go_wp2_with fail
      refine (cells_walk n m _).mono ?_
      rintro e w' ⟨rfl, rfl⟩
      go_wp2_with fail
      obtain ⟨b, hb⟩ : ∃ b, wr.heap.size = b := ⟨_, rfl⟩
      obtain ⟨b1, hb1⟩ : ∃ x, b + 1 = x := ⟨_, rfl⟩
      obtain ⟨b2, hb2⟩ : ∃ x, b1 + 1 = x := ⟨_, rfl⟩
      obtain ⟨b3, hb3⟩ : ∃ x, b2 + 1 = x := ⟨_, rfl⟩
      obtain ⟨Wa, hWa⟩ : ∃ W, wr.alloc (.map #[] 0) = W := ⟨_, rfl⟩
      obtain ⟨Wb, hWb⟩ : ∃ W, Wa.alloc (.cells #[.map (some b)] 92) = W := ⟨_, rfl⟩
      obtain ⟨Wc, hWc⟩ : ∃ W, Wb.alloc (.cells #[.int .i64 n] 3) = W := ⟨_, rfl⟩
      have ya : Ext wr Wa := by rw [← hWa]; exact Ext.alloc' _ _
      have yb : Ext Wa Wb := by rw [← hWb]; exact Ext.alloc' _ _
      have yc : Ext Wb Wc := by rw [← hWc]; exact Ext.alloc' _ _
      have yd := Ext.alloc' Wc (.cells #[.int .i64 m] 3)
      have za : Wa.heap.size = b1 := by rw [← hWa, ← hb1, ← hb]; simp
      have zb : Wb.heap.size = b2 := by rw [← hWb, ← hb2, ← za]; simp
      have zc : Wc.heap.size = b3 := by rw [← hWc, ← hb3, ← zb]; simp
      have mp0 : Mp (prV pd ph ps pq) (skV pp) b 0 (fun _ _ => none) Wa := by rw [← hWa, ← hb]; exact Mp.made _ _ _
      have bx1 : Boxed Wb b1 92 (.map (some b)) := by rw [← hWb, ← za]; exact Boxed.new _ _ _
      have bx2 : Boxed Wc b2 3 (.int .i64 n) := by rw [← hWc, ← zb]; exact Boxed.new _ _ _
      have bx3 := Boxed.new Wc 3 (.int .i64 m)
      rw [zc] at bx3
      rw [hb, hb1, hb2, hb3, hWa, hWb, hWc]
      obtain ⟨W7, hW7⟩ : ∃ W, Wc.alloc (.cells #[.int .i64 m] 3) = W := ⟨_, rfl⟩
      have z7 : W7.heap.size = b3 + 1 := by rw [← hW7, ← zc]; simp
      rw [hW7] at bx3 yd ⊢
      have yA := ((ya.trans yb).trans yc).trans yd
      have mp7 := mp0.ext ((yb.trans yc).trans yd)
      have x1 := bx1.ext (yc.trans yd)
      have x2 := bx2.ext yd
      have E0 := D0.out.ext yA; have E1 := D1.out.ext yA; have E2 := D2.out.ext yA; have E4 := D4.out.ext yA
      have M7 := M0.ext yA
      have X7 := X.trans yA
      have HHb := Lib.hid hb; have HHb1 := Lib.hid hb1; have HHb2 := Lib.hid hb2; have HHb3 := Lib.hid hb3
      have hlt7 : b < W7.heap.size := by omega
      have HRB : Hid (∀ r ∈ rows, r < b) := Lib.hid fun r hr => by
        obtain ⟨i, hi, rfl⟩ := List.getElem_of_mem hr
        have := M0.lt hi
        have := HHb.out
        omega
      clear ya yb yc yd za zb zc mp0 bx1 bx2 hWa hWb hWc hW7 hb hb1 hb2 hb3 D0 D1 D2 D4 M0 X yA hmm k0 k1 l0 l1 c0 c1
      have M8 : Mat (H4 + 1) g rows (m + 1) (tabK ds hs p 0) W7 := M7.congr fun i j hi hj => (tabK_zero ds hs p (by rw [HN.out]; rw [HRL.out] at hi; omega) (by rw [HM.out]; omega)).symm
      have mp8 : Mp (prV pd ph ps pq) (skV pp) b (3 * 0) (stK ds hs p 0) W7 := mp7.mono (by omega) fun a c k h => absurd h (stK_zero ds hs p a c k)
      clear M7 mp7
      refine (wpIn_wide (n := 0)).1 ?_
      refine wpIn_rangeF (gf := 50) (lb := #[.pointer (some ⟨b2, 0, none⟩), .pointer (some ⟨b3, 0, none⟩)]) rfl (enters_of Tryz.func50 (by kernel_rfl) rfl) (cells_iter b2 b3 n m hn100 hm100) (fun _ => rfl)
        (fun K W => Mat (H4 + 1) g rows (m + 1) (tabK ds hs p K) W ∧ Mp (prV pd ph ps pq) (skV pp) b (3 * K) (stK ds hs p K) W ∧ Boxed W H 3 (.int .i64 n) ∧ Boxed W H1 3 (.int .i64 m) ∧ Boxed W H2 90 (.slice aS 3 cS)
          ∧ Boxed W H4 55 (.slice (some ⟨g, 0, none⟩) (n + 1) (n + 1)) ∧ Boxed W b1 92 (.map (some b)) ∧ Boxed W b2 3 (.int .i64 n) ∧ Boxed W b3 3 (.int .i64 m) ∧ Ext w2 W)
        (fun _ _ => False)
        (fun k => .and .mat (.and (.mp hlt7) (.and .boxed (.and .boxed (.and .boxed (.and .boxed (.and .boxed (.and .boxed (.and .boxed (.extw (by have := X7.size; omega)))))))))))
        (fun c => .false) (fun k W h => ⟨h.2.2.2.2.2.2.2.1.cell, h.2.2.2.2.2.2.2.2.1.cell⟩)
        ⟨M8, mp8, E0, E1, E2, E4, x1, x2, bx3, X7⟩ ?round ?done ?stop
      case stop => intro D c W _ h; exact h.elim
      case done =>
        rintro D W hD ⟨M, mp, d0, d1, d2, d4, e1, e2, e3, X⟩ hdef
        have hN := HN.out; have hM := HM.out
        rw [cellsL_len] at M mp
        have MT : Mat (H4 + 1) g rows (m + 1) (tab ds hs p) W := M.congr fun i j _ _ => by rw [← hN, ← hM, tabK_all]
        have hall : ∀ i j, i ≤ n → j ≤ m → (i < n ∨ j < m) → stK ds hs p ((n + 1) * (m + 1)) i j = some (code ds hs p i j) := fun i j h1 h2 h3 => by
          rw [← hN, ← hM]
          exact stK_all ds hs p (by omega) (by omega) (by omega)
        have hnm : 3 * ((n + 1) * (m + 1)) ≤ 100000 := by
          have : (n + 1) * (m + 1) ≤ 101 * 101 := Nat.mul_le_mul (by omega) (by omega)
          omega
        have HALL := Lib.hid hall
        have P0 : Hid (pathL ds hs p = [] ++ path ds hs p (n + m) 0 0) := Lib.hid (by rw [pathL, hN, hM]; rfl)
        have hDW : D < W.heap.size := (Array.getElem?_eq_some_iff.1 hdef).1
        have HDEF := Lib.hid hdef
        have E0 := Lib.hid d0; have E1 := Lib.hid d1; have E4 := Lib.hid d4; have EM := Lib.hid e1
        clear M hN hM hall hdef d0 d1 d2 d4 e1 e2 e3 bx3 x1 x2 M8 mp8
        go_wp2
        go_loopw [22, 23, 24] (fun v iv jv wr => ∃ (i j f : Nat) (l : List Mt), i ≤ n ∧ j ≤ m ∧ (n - i) + (m - j) ≤ f ∧ l.length ≤ i ∧ iv = .int .i64 i ∧ jv = .int .i64 j ∧ pathL ds hs p = l ++ path ds hs p f i j ∧ OwnR wr W.heap.size 61 2 encM v l ∧ Ext W wr) (fun _ iv jv _ => (n - (intOf iv).toNat) + (m - (intOf jv).toNat))
        case atStart => exact ⟨0, 0, n + m, [], by omega, by omega, by omega, by simp, rfl, rfl, P0.out, OwnR.nil, Ext.refl _⟩
        case round =>
          obtain ⟨i, j, f, l, hi, hj, hf, hl, rfl, rfl, hpath, own, Y⟩ := hrel
          have HP := Lib.hid hpath
          clear hpath
          have c0 := (E0.out.ext Y).cell
          have c1 := (E1.out.ext Y).cell
          have cm := (EM.out.ext Y).cell
          by_cases hend : i < n ∨ j < m
          · have hcl := code_lt ds hs p i j
            obtain ⟨f, rfl⟩ : ∃ q, f = q + 1 := ⟨f - 1, by omega⟩
            have hnext := path_code ds hs p f i j
            have hbnd := code_ok ds hs p (i := i) (j := j) (by rw [HN.out]; exact hi) (by rw [HM.out]; exact hj) (by rw [HN.out, HM.out]; exact hend)
            rw [HN.out, HM.out] at hbnd
            have hlk := (mp.ext Y).look (show i ≤ 1000 by omega) (show j ≤ 1000 by omega) (HALL.out i j hi hj hend)
            generalize code ds hs p i j = c at hcl hnext hbnd hlk
            have l1 := (E1.out.ext Y).lt; have l0 := (E0.out.ext Y).lt; have lm := (EM.out.ext Y).lt
            have k0 : ¬ H = wr.heap.size := by omega
            have k1 : ¬ H1 = wr.heap.size := by omega
            have km : ¬ b1 = wr.heap.size := by omega
            have hfr := own.fresh (Nat.le_refl wr.heap.size)
            rcases (show c = 0 ∨ c = 1 ∨ c = 2 by omega) with rfl | rfl | rfl
            · have hl1 : (Instr.lookup 92 (.map (some b)) (.agg #[.int .i64 i, .int .i64 j]) false).run Tryz.prog wr = .ok (.agg #[.int .i64 1, .int .i64 1, .func (.func 71) #[] #[.pointer (some ⟨pd, 0, none⟩), .pointer (some ⟨ph, 0, none⟩), .pointer (some ⟨ps, 0, none⟩), .pointer (some ⟨pq, 0, none⟩)]]) wr := hlk
              have ow := own.alloc (.cells #[.int .i64 1, .int .i64 1, .func (.func 71) #[] #[.pointer (some ⟨pd, 0, none⟩), .pointer (some ⟨ph, 0, none⟩), .pointer (some ⟨ps, 0, none⟩), .pointer (some ⟨pq, 0, none⟩)]] 98)
              have y := Ext.alloc' wr (.cells #[.int .i64 1, .int .i64 1, .func (.func 71) #[] #[.pointer (some ⟨pd, 0, none⟩), .pointer (some ⟨ph, 0, none⟩), .pointer (some ⟨ps, 0, none⟩), .pointer (some ⟨pq, 0, none⟩)]] 98)
              have n0 := alloc_cell wr #[.int .i64 1, .int .i64 1, .func (.func 71) #[] #[.pointer (some ⟨pd, 0, none⟩), .pointer (some ⟨ph, 0, none⟩), .pointer (some ⟨ps, 0, none⟩), .pointer (some ⟨pq, 0, none⟩)]] 98 0 (.int .i64 1) rfl
              have n1 := alloc_cell wr #[.int .i64 1, .int .i64 1, .func (.func 71) #[] #[.pointer (some ⟨pd, 0, none⟩), .pointer (some ⟨ph, 0, none⟩), .pointer (some ⟨ps, 0, none⟩), .pointer (some ⟨pq, 0, none⟩)]] 98 1 (.int .i64 1) rfl
              have YY := Y.trans y
              have hpath : pathL ds hs p = (l ++ [(⟨i, j⟩ : Mt)]) ++ path ds hs p f (i + 1) (j + 1) := by rw [HP.out, List.append_assoc]; exact congrArg (l ++ ·) hnext
              have hb1 : i + 1 ≤ n := hbnd.1
              have hb2 : j + 1 ≤ m := hbnd.2
              have HPP := Lib.hid hpath; have OW := Lib.hid ow; have Z := Lib.hid YY; have N0 := Lib.hid n0; have N1 := Lib.hid n1
              clear hpath hnext hbnd hlk HP own ow y YY n0 n1
              have hin : i < n := by omega
              all_goals
                go_wp2_with (at_builtin; go_must (refine wpList_own1 et_m rfl _ _ rfl OW.out rfl (⟨i, j⟩ : Mt) rfl rfl rfl (by simp [encM, Value.oneCell']) (by omega) Z.out.size ?_; intro v' WQ hown' hb' happ _))
                have C0 : Hid (WQ.cell? ⟨wr.heap.size, 0, none⟩ = some (.int .i64 1)) := Lib.hid (happ.cell hfr N0.out)
                have C1 : Hid (WQ.cell? ⟨wr.heap.size, 1, none⟩ = some (.int .i64 1)) := Lib.hid (happ.cell hfr N1.out)
                have HOW := Lib.hid hown'; have HBB := Lib.hid (Below.trans Z.out hb')
                clear hown' hb' happ
                have g0 := ext_cells C0.out
                have g1 := ext_cells C1.out
                have v1 : IntKind.i64.wrap ((i : Int) + 1) = (i : Int) + 1 := IntWalk.i64_in _ (by omega)
                have v2 : IntKind.i64.wrap ((j : Int) + 1) = (j : Int) + 1 := IntWalk.i64_in _ (by omega)
                have v3 : IntKind.i64.wrap (i : Int) = (i : Int) := IntWalk.i64_in _ (by omega)
                have v4 : IntKind.i64.wrap (j : Int) = (j : Int) := IntWalk.i64_in _ (by omega)
                refine wp_region_ord [(0,true), (1,true), (2,true), (3,true), (4,true), (5,true), (6,true), (7,true), (8,true), (9,true)] 10 Ext (Ext WQ) wide (by kernel_rfl) (stable_ext _) (Ext.drawn _ _) ?_
                iterate 10 (apply wpOrd_det rfl rfl; (intro w' hw'; unfold opR; go_simp; exact ⟨Ext.refl _, rfl⟩); (simp only [List.getElem_toArray, List.getElem_cons_succ, List.getElem_cons_zero, Act.put, List.setIfInBounds_toArray, List.set_cons_succ, List.set_cons_zero]; rfl))
                refine wpOrd_nil rfl ?_
                intro W9 hW9
                clear g0 g1 v1 v2 v3 v4
                go_wp2
                go_roundw
                case rel => exact ⟨i + 1, j + 1, f, l ++ [⟨i, j⟩], hb1, hb2, by omega, by simp; omega, by first | go_num | rfl, by first | go_num | rfl, HPP.out, HOW.out.ext hW9, (show Ext W WQ from HBB.out).trans hW9⟩
                case measure => simp [intOf]; omega
            · have hl1 : (Instr.lookup 92 (.map (some b)) (.agg #[.int .i64 i, .int .i64 j]) false).run Tryz.prog wr = .ok (.agg #[.int .i64 1, .int .i64 0, .func (.func 48) #[] #[.pointer (some ⟨pp, 0, none⟩)]]) wr := hlk
              have ow := own.alloc (.cells #[.int .i64 1, .int .i64 0, .func (.func 48) #[] #[.pointer (some ⟨pp, 0, none⟩)]] 98)
              have y := Ext.alloc' wr (.cells #[.int .i64 1, .int .i64 0, .func (.func 48) #[] #[.pointer (some ⟨pp, 0, none⟩)]] 98)
              have n0 := alloc_cell wr #[.int .i64 1, .int .i64 0, .func (.func 48) #[] #[.pointer (some ⟨pp, 0, none⟩)]] 98 0 (.int .i64 1) rfl
              have n1 := alloc_cell wr #[.int .i64 1, .int .i64 0, .func (.func 48) #[] #[.pointer (some ⟨pp, 0, none⟩)]] 98 1 (.int .i64 0) rfl
              have YY := Y.trans y
              have hpath : pathL ds hs p = (l ++ []) ++ path ds hs p f (i + 1) (j + 0) := by rw [HP.out, List.append_assoc]; exact congrArg (l ++ ·) hnext
              have hb1 : i + 1 ≤ n := hbnd.1
              have hb2 : j + 0 ≤ m := hbnd.2
              have HPP := Lib.hid hpath; have OW := Lib.hid ow; have Z := Lib.hid YY; have N0 := Lib.hid n0; have N1 := Lib.hid n1
              clear hpath hnext hbnd hlk HP own ow y YY n0 n1
              have hin : i < n := by omega
              all_goals
                go_wp2
                obtain ⟨WQ, hWQ⟩ : ∃ WQ, wr.alloc (.cells #[.int .i64 1, .int .i64 0, .func (.func 48) #[] #[.pointer (some ⟨pp, 0, none⟩)]] 98) = WQ := ⟨_, rfl⟩
                have C0 : Hid (WQ.cell? ⟨wr.heap.size, 0, none⟩ = some (.int .i64 1)) := Lib.hid (by rw [← hWQ]; exact N0.out)
                have C1 : Hid (WQ.cell? ⟨wr.heap.size, 1, none⟩ = some (.int .i64 0)) := Lib.hid (by rw [← hWQ]; exact N1.out)
                have HOW : Hid (OwnR WQ W.heap.size 61 2 encM _ l) := Lib.hid (by rw [← hWQ]; exact OW.out)
                have HBB : Hid (Ext W WQ) := Lib.hid (by rw [← hWQ]; exact Z.out)
                rw [hWQ]
                clear hWQ
                have g0 := ext_cells C0.out
                have g1 := ext_cells C1.out
                have v1 : IntKind.i64.wrap ((i : Int) + 1) = (i : Int) + 1 := IntWalk.i64_in _ (by omega)
                have v2 : IntKind.i64.wrap ((j : Int) + 1) = (j : Int) + 1 := IntWalk.i64_in _ (by omega)
                have v3 : IntKind.i64.wrap (i : Int) = (i : Int) := IntWalk.i64_in _ (by omega)
                have v4 : IntKind.i64.wrap (j : Int) = (j : Int) := IntWalk.i64_in _ (by omega)
                refine wp_region_ord [(0,true), (1,true), (2,true), (3,true), (4,true), (5,true), (6,true), (7,true), (8,true), (9,true)] 10 Ext (Ext WQ) wide (by kernel_rfl) (stable_ext _) (Ext.drawn _ _) ?_
                iterate 10 (apply wpOrd_det rfl rfl; (intro w' hw'; unfold opR; go_simp; exact ⟨Ext.refl _, rfl⟩); (simp only [List.getElem_toArray, List.getElem_cons_succ, List.getElem_cons_zero, Act.put, List.setIfInBounds_toArray, List.set_cons_succ, List.set_cons_zero]; rfl))
                refine wpOrd_nil rfl ?_
                intro W9 hW9
                clear g0 g1 v1 v2 v3 v4
                go_wp2
                go_roundw
                case rel => exact ⟨i + 1, j + 0, f, l ++ [], hb1, hb2, by omega, by simp; omega, by first | go_num | rfl, by first | go_num | rfl, HPP.out, by rw [List.append_nil]; exact HOW.out.ext hW9, HBB.out.trans hW9⟩
                case measure => simp [intOf]; omega
            · have hl1 : (Instr.lookup 92 (.map (some b)) (.agg #[.int .i64 i, .int .i64 j]) false).run Tryz.prog wr = .ok (.agg #[.int .i64 0, .int .i64 1, .func (.func 48) #[] #[.pointer (some ⟨pp, 0, none⟩)]]) wr := hlk
              have ow := own.alloc (.cells #[.int .i64 0, .int .i64 1, .func (.func 48) #[] #[.pointer (some ⟨pp, 0, none⟩)]] 98)
              have y := Ext.alloc' wr (.cells #[.int .i64 0, .int .i64 1, .func (.func 48) #[] #[.pointer (some ⟨pp, 0, none⟩)]] 98)
              have n0 := alloc_cell wr #[.int .i64 0, .int .i64 1, .func (.func 48) #[] #[.pointer (some ⟨pp, 0, none⟩)]] 98 0 (.int .i64 0) rfl
              have n1 := alloc_cell wr #[.int .i64 0, .int .i64 1, .func (.func 48) #[] #[.pointer (some ⟨pp, 0, none⟩)]] 98 1 (.int .i64 1) rfl
              have YY := Y.trans y
              have hpath : pathL ds hs p = (l ++ []) ++ path ds hs p f (i + 0) (j + 1) := by rw [HP.out, List.append_assoc]; exact congrArg (l ++ ·) hnext
              have hb1 : i + 0 ≤ n := hbnd.1
              have hb2 : j + 1 ≤ m := hbnd.2
              have HPP := Lib.hid hpath; have OW := Lib.hid ow; have Z := Lib.hid YY; have N0 := Lib.hid n0; have N1 := Lib.hid n1
              clear hpath hnext hbnd hlk HP own ow y YY n0 n1
              by_cases hin : i < n
              all_goals
                go_wp2
                obtain ⟨WQ, hWQ⟩ : ∃ WQ, wr.alloc (.cells #[.int .i64 0, .int .i64 1, .func (.func 48) #[] #[.pointer (some ⟨pp, 0, none⟩)]] 98) = WQ := ⟨_, rfl⟩
                have C0 : Hid (WQ.cell? ⟨wr.heap.size, 0, none⟩ = some (.int .i64 0)) := Lib.hid (by rw [← hWQ]; exact N0.out)
                have C1 : Hid (WQ.cell? ⟨wr.heap.size, 1, none⟩ = some (.int .i64 1)) := Lib.hid (by rw [← hWQ]; exact N1.out)
                have HOW : Hid (OwnR WQ W.heap.size 61 2 encM _ l) := Lib.hid (by rw [← hWQ]; exact OW.out)
                have HBB : Hid (Ext W WQ) := Lib.hid (by rw [← hWQ]; exact Z.out)
                rw [hWQ]
                clear hWQ
                have g0 := ext_cells C0.out
                have g1 := ext_cells C1.out
                have v1 : IntKind.i64.wrap ((i : Int) + 1) = (i : Int) + 1 := IntWalk.i64_in _ (by omega)
                have v2 : IntKind.i64.wrap ((j : Int) + 1) = (j : Int) + 1 := IntWalk.i64_in _ (by omega)
                have v3 : IntKind.i64.wrap (i : Int) = (i : Int) := IntWalk.i64_in _ (by omega)
                have v4 : IntKind.i64.wrap (j : Int) = (j : Int) := IntWalk.i64_in _ (by omega)
                refine wp_region_ord [(0,true), (1,true), (2,true), (3,true), (4,true), (5,true), (6,true), (7,true), (8,true), (9,true)] 10 Ext (Ext WQ) wide (by kernel_rfl) (stable_ext _) (Ext.drawn _ _) ?_
                iterate 10 (apply wpOrd_det rfl rfl; (intro w' hw'; unfold opR; go_simp; exact ⟨Ext.refl _, rfl⟩); (simp only [List.getElem_toArray, List.getElem_cons_succ, List.getElem_cons_zero, Act.put, List.setIfInBounds_toArray, List.set_cons_succ, List.set_cons_zero]; rfl))
                refine wpOrd_nil rfl ?_
                intro W9 hW9
                clear g0 g1 v1 v2 v3 v4
                go_wp2
                go_roundw
                case rel => exact ⟨i + 0, j + 1, f, l ++ [], hb1, hb2, by omega, by simp; omega, by first | go_num | rfl, by first | go_num | rfl, HPP.out, by rw [List.append_nil]; exact HOW.out.ext hW9, HBB.out.trans hW9⟩
                case measure => simp [intOf]; omega
          · obtain rfl : i = n := by omega
            obtain rfl : j = m := by omega
            have hpe : path ds hs p f i j = [] := path_end ds hs p f i j (by rw [HN.out]; exact Nat.le_refl _) (by rw [HM.out]; exact Nat.le_refl _)
            have HL : Hid (pathL ds hs p = l) := Lib.hid (by rw [HP.out, hpe, List.append_nil])
            have MY := MT.ext Y
            have rl0 : 0 < rows.length := by rw [HRL.out]; omega
            have qh := MY.head rl0
            have qc := MY.cell rl0 (Nat.succ_pos j)
            have q4 := (E4.out.ext Y).cell
            obtain ⟨r0, hr0⟩ : ∃ r, rows[0] = r := ⟨_, rfl⟩
            rw [hr0] at qh qc
            have TB := MY.tab HRL.out (by omega) (by omega)
            have SL := own.sl (fun _ _ => rfl) (by omega)
            obtain ⟨al, cl, rfl, -, -, -⟩ := SL.len
            have hD9 : wr.heap[D]? = some (.deferred (some [])) := (Y.block D hDW).trans HDEF.out
            have XF : Ext w wr := (X2.trans X).trans Y
            have hDw : w.heap.size ≤ D := by have := X2.size; have := X7.size; omega
            have g0 := ext_cells qh; have g1 := ext_cells qc; have g4 := ext_cells q4
            have v1 : (0 : Int) < (i : Int) + 1 := by omega
            have v2 : (0 : Int) < (j : Int) + 1 := by omega
            have HTB := Lib.hid TB; have HSL := Lib.hid SL; have HXF := Lib.hid XF
            clear hpe MY qh qc q4 hr0 TB SL XF own Y mp MT HP
            go_wp2
            refine wp_region_ord [(0,true), (1,true), (2,true), (3,true), (4,true), (5,true), (6,true), (7,true), (8,true), (9,true), (10,true)] 11 Ext (Ext wr) wide (by kernel_rfl) (stable_ext _) (Ext.drawn _ _) ?_
            iterate 11 (apply wpOrd_det rfl rfl; (intro w' hw'; unfold opR; go_simp; exact ⟨Ext.refl _, rfl⟩); (simp only [List.getElem_toArray, List.getElem_cons_succ, List.getElem_cons_zero, Act.put, List.setIfInBounds_toArray, List.set_cons_succ, List.set_cons_zero]; rfl))
            refine wpOrd_nil rfl ?_
            intro W9 hW9
            go_wp2
            refine bodyPostM_ret (v := .tuple #[.slice al l.length cl, .int .i64 (tab ds hs p 0 0), .slice (some ⟨g, 0, none⟩) (i + 1) (i + 1), .int .i64 0]) rfl ((hW9.block D (Array.getElem?_eq_some_iff.1 hD9).1).trans hD9) (fun W' _ => by simp [results, Tryz.results10, go_sem]) (fun W' hs' => ⟨_, _, rfl, ?_, ?_, ?_⟩)
            · rw [HL.out]; exact hs'.sl (HSL.out.ext hW9)
            · rw [tableL_eq, HN.out, HM.out]
              exact (HTB.out.ext hW9).same hs'
            · exact Below.trans (HXF.out.trans hW9) (hs'.below hDw)
      case round =>
        rintro lr K W hK ⟨M, mp, d0, d1, d2, d4, e1, e2, e3, X⟩ hle hlt
        rw [cellsL_len] at hK
        rw [cellsL_get]
        have here := here_of hK
        have HKS : Hid (K ≤ 20000) := Lib.hid (by
          have : (n + 1) * (m + 1) ≤ 101 * 101 := Nat.mul_le_mul (by omega) (by omega)
          omega)
        obtain ⟨i0, hi0⟩ : ∃ i0, n - K / (m + 1) = i0 := ⟨_, rfl⟩
        obtain ⟨j0, hj0⟩ : ∃ j0, m - K % (m + 1) = j0 := ⟨_, rfl⟩
        rw [hi0, hj0] at here ⊢
        obtain ⟨li, lj⟩ := here.le
        have HERE : Hid (Here ds.length hs.length K i0 j0) := Lib.hid (by rw [HN.out, HM.out]; exact here)
        have hX7 := X7.size
        have hb7 := hlt7
        clear hi0 hj0 here hK M8 mp8 E0 E1 E2 E4 x1 x2 bx3
        simp only [encC]
        gi_wp2
        refine ⟨KeepsFrom.refl _ _, fun W2 hs2 => ?_⟩
        have M2 := M.same hs2
        have mp2 := mp.same hs2 (by omega)
        have f0 := hs2.boxed d0; have f1 := hs2.boxed d1; have f2 := hs2.boxed d2; have f4 := hs2.boxed d4
        have g1 := hs2.boxed e1; have g2 := hs2.boxed e2; have g3 := hs2.boxed e3
        have Y : Ext w2 W2 := Below.trans X (hs2.below (by omega))
        clear M mp d0 d1 d2 d4 e1 e2 e3 X hs2
        have SMr : Sl w2 3 encMv (.slice aS 3 cS) ((List.range 3).map (mv3 (prV pd ph ps pq) (skV pp))) := SM
        have c2 := f2.cell
        gi_wp2
        clear c2
        gi_loopw [18, 62] (fun fv c wr => ∃ k : Nat, k ≤ 3 ∧ c = .int .i64 k ∧ fv = .bool (cur ds hs p i0 j0 k).isSome ∧ Mat (H4 + 1) g rows (m + 1) (curT ds hs p K i0 j0 (cur ds hs p i0 j0 k)) wr ∧ Mp (prV pd ph ps pq) (skV pp) b (3 * K + k) (curS ds hs p K i0 j0 (cur ds hs p i0 j0 k)) wr
          ∧ Boxed wr H 3 (.int .i64 n) ∧ Boxed wr H1 3 (.int .i64 m) ∧ Boxed wr H2 90 (.slice aS 3 cS) ∧ Boxed wr H4 55 (.slice (some ⟨g, 0, none⟩) (n + 1) (n + 1)) ∧ Boxed wr b1 92 (.map (some b)) ∧ Boxed wr b2 3 (.int .i64 n) ∧ Boxed wr b3 3 (.int .i64 m)
          ∧ Ext w2 wr ∧ KeepsFrom W7.heap.size W2 wr) (fun _ c _ => 3 - (intOf c).toNat)
        case atStart => exact ⟨0, by omega, rfl, rfl, M2, mp2, f0, f1, f2, f4, g1, g2, g3, Y, KeepsFrom.refl _ _⟩
        case round =>
          clear M2 mp2 f0 f1 f2 f4 g1 g2 g3 Y
          obtain ⟨k, hk, rfl, rfl, M, mp, d0, d1, d2, d4, e1, e2, e3, X, KF⟩ := hrel
          by_cases hlt : k < 3
          · obtain ⟨bS, oS, rfl, q0, q1, q2⟩ := Sl.mv (SMr.ext X) k (by simp; omega)
            simp only [List.getElem_map, List.getElem_range] at q0 q1 q2
            obtain ⟨fn, cap, hfn, hen, hcall⟩ := step_fn HV.out PC SK i0 j0 k
            rw [mv3_d] at q0; rw [mv3_h] at q1; rw [hfn] at q2
            have hdi := mD_le k; have hdj := mH_le k; have hdij := mDH k
            obtain ⟨di, hDI⟩ : ∃ d, mD k = d := ⟨_, rfl⟩
            obtain ⟨dj, hDJ⟩ : ∃ d, mH k = d := ⟨_, rfl⟩
            rw [hDI] at q0 hdi hdij; rw [hDJ] at q1 hdj hdij
            have HDI := Lib.hid hDI; have HDJ := Lib.hid hDJ; have HEN := Lib.hid hen; have HCALL := Lib.hid hcall; have HFN := Lib.hid hfn
            clear hDI hDJ hen hcall hfn
            obtain ⟨o, ho⟩ : ∃ o, cur ds hs p i0 j0 k = o := ⟨_, rfl⟩
            rw [ho] at M mp ⊢
            have HCUR := Lib.hid ho
            clear ho
            have c0 := d0.cell; have c1 := d1.cell
            have l0 := d0.lt; have l1 := d1.lt
            have k0 : ¬ H = wr.heap.size := by omega
            have k1 : ¬ H1 = wr.heap.size := by omega
            have D0 := Lib.hid d0; have D1 := Lib.hid d1; have D2 := Lib.hid d2; have D4 := Lib.hid d4
            have E1 := Lib.hid e1; have E2 := Lib.hid e2; have E3 := Lib.hid e3
            have HNO : Hid (¬ (i0 + di ≤ n ∧ j0 + dj ≤ m) → cur ds hs p i0 j0 (k + 1) = o) := Lib.hid fun h => by rw [cur_no, HCUR.out]; show ¬ (i0 + mD k ≤ ds.length ∧ j0 + mH k ≤ hs.length); rw [HDI.out, HDJ.out, HN.out, HM.out]; exact h
            clear d0 d1 d2 d4 e1 e2 e3
            by_cases a1 : (n : Int) < (i0 : Int) + (di : Int)
            · gi_wp2
              go_roundw
              case rel =>
                have y := Ext.alloc' wr (.cells #[.int .i64 di, .int .i64 dj, .func (.func fn) #[] cap] 98)
                have hno := HNO.out (by omega)
                exact ⟨k + 1, by omega, by go_num, by rw [hno], by rw [hno]; exact M.ext y, by rw [hno]; exact (mp.ext y).mono (by omega) (fun _ _ _ h => h), D0.out.ext y, D1.out.ext y, D2.out.ext y, D4.out.ext y, E1.out.ext y, E2.out.ext y, E3.out.ext y, X.trans y, KF.trans ((KeepsOthers.ext y).from _)⟩
              case measure => simp [intOf]; omega
            · by_cases a2 : (m : Int) < (j0 : Int) + (dj : Int)
              · gi_wp2
                go_roundw
                case rel =>
                  have y := Ext.alloc' wr (.cells #[.int .i64 di, .int .i64 dj, .func (.func fn) #[] cap] 98)
                  have hno := HNO.out (by omega)
                  exact ⟨k + 1, by omega, by go_num, by rw [hno], by rw [hno]; exact M.ext y, by rw [hno]; exact (mp.ext y).mono (by omega) (fun _ _ _ h => h), D0.out.ext y, D1.out.ext y, D2.out.ext y, D4.out.ext y, E1.out.ext y, E2.out.ext y, E3.out.ext y, X.trans y, KF.trans ((KeepsOthers.ext y).from _)⟩
                case measure => simp [intOf]; omega
              · have hok : stOk ds hs i0 j0 k := by
                  show i0 + mD k ≤ ds.length ∧ j0 + mH k ≤ hs.length
                  rw [HDI.out, HDJ.out, HN.out, HM.out]; omega
                have hbd := stV_bd HV.out hok
                have hcc := HCALL.out hok
                have hsv : stV ds hs p i0 j0 k = stC ds hs p i0 j0 k + tab ds hs p (i0 + mD k) (j0 + mH k) := rfl
                have hrd : curT ds hs p K i0 j0 o (i0 + di) (j0 + dj) = tab ds hs p (i0 + mD k) (j0 + mH k) := by
                  rw [curT_other (by omega), ← HDI.out, ← HDJ.out, here_read HERE.out hlt]
                rw [← hrd] at hbd hsv
                obtain ⟨sc, hsc⟩ : ∃ x, stC ds hs p i0 j0 k = x := ⟨_, rfl⟩
                obtain ⟨tv, htv⟩ : ∃ x, curT ds hs p K i0 j0 o (i0 + di) (j0 + dj) = x := ⟨_, rfl⟩
                rw [hsc] at hbd hsv hcc; rw [htv] at hbd hsv
                have rl : i0 + di < rows.length := by rw [HRL.out]; omega
                have rl0 : i0 < rows.length := by rw [HRL.out]; omega
                have qh := M.head rl
                have qc := M.cell rl (show j0 + dj < m + 1 by omega)
                have qh0 := M.head rl0
                have qc0 := M.cell rl0 (show j0 < m + 1 by omega)
                have fr0 := M.free rl0 j0
                rw [htv] at qc
                have hrg := M.ge _ (List.getElem_mem rl0)
                have hrlt := M.lt rl0
                obtain ⟨r0, hr0⟩ : ∃ r, rows[i0] = r := ⟨_, rfl⟩
                obtain ⟨r1, hr1⟩ : ∃ r, rows[i0 + di] = r := ⟨_, rfl⟩
                rw [hr0] at qh0 qc0 fr0 hrg hrlt; rw [hr1] at qh qc
                have HOK := Lib.hid hok; have HCC := Lib.hid hcc; have HSV := Lib.hid hsv; have HR0 := Lib.hid hr0
                obtain ⟨hb1, hb2, hb3, hb4⟩ := hbd
                have QH := Lib.hid qh; have QC := Lib.hid qc; have QH0 := Lib.hid qh0; have QC0 := Lib.hid qc0; have FR0 := Lib.hid fr0
                clear hok hcc hsv hrd hsc htv hr0 hr1 qh qc qh0 qc0 fr0 HCALL
                gi_wp2
                have yN := Ext.alloc' wr (.cells #[.int .i64 di, .int .i64 dj, .func (.func fn) #[] cap] 98)
                obtain ⟨N, hN⟩ : ∃ N, wr.heap.size = N := ⟨_, rfl⟩
                have bN := block_at hN (.cells #[.int .i64 di, .int .i64 dj, .func (.func fn) #[] cap] 98)
                obtain ⟨W3, hW3⟩ : ∃ W3, wr.alloc (.cells #[.int .i64 di, .int .i64 dj, .func (.func fn) #[] cap] 98) = W3 := ⟨_, rfl⟩
                rw [hW3] at bN yN ⊢
                rw [hN]
                have HNN := Lib.hid hN
                clear hN hW3 c0 c1 q0 q1 q2 k0 k1
                have n0 := ext_cells (block_cell bN 0 (.int .i64 di) rfl)
                have n1 := ext_cells (block_cell bN 1 (.int .i64 dj) rfl)
                have n2 := ext_cells (block_cell bN 2 (.func (.func fn) #[] cap) rfl)
                have t4 := ext_cells (yN.cell D4.out.cell)
                have u1 := ext_cells (yN.cell QH.out)
                have u2 := ext_cells (yN.cell QC.out)
                have w1 : IntKind.i64.wrap ((i0 : Int) + (di : Int)) = (i0 : Int) + (di : Int) := IntWalk.i64_in _ (by omega)
                have w2' : IntKind.i64.wrap ((j0 : Int) + (dj : Int)) = (j0 : Int) + (dj : Int) := IntWalk.i64_in _ (by omega)
                have w3 : IntKind.i64.wrap (sc + tv) = sc + tv := IntWalk.i64_in _ (by omega)
                have v1 : (0 : Int) ≤ (i0 : Int) + (di : Int) := by omega
                have v2 : (i0 : Int) + (di : Int) < (n : Int) + 1 := by omega
                have v3 : (0 : Int) ≤ (j0 : Int) + (dj : Int) := by omega
                have v4 : (j0 : Int) + (dj : Int) < (m : Int) + 1 := by omega
                have v5 : ((i0 : Int) + (di : Int)).toNat = i0 + di := by omega
                have v6 : ((j0 : Int) + (dj : Int)).toNat = j0 + dj := by omega
                have XN := X.trans yN
                refine wpIn_region_ord [(0,true), (1,true), (2,true), (3,true), (4,true), (5,true), (6,true), (7,true), (8,true), (9,true), (10,true), (11,true), (12,true), (13,true), (14,true), (15,true), (16,true), (17,true), (18,true), (19,true)] 20 Ext (Ext W3) wide (by kernel_rfl) (by rintro ⟨_, _, h⟩; exact h) (stable_ext _) (Ext.drawn _ _) ?_
                iterate 4 (apply wpOrd_det rfl rfl; (intro w' hw'; unfold opR; go_simp; exact ⟨Ext.refl _, rfl⟩); (simp only [List.getElem_toArray, List.getElem_cons_succ, List.getElem_cons_zero, Act.put, List.setIfInBounds_toArray, List.set_cons_succ, List.set_cons_zero]; rfl))
                apply wpOrd_det rfl rfl
                · intro w' hw'
                  refine opR_callv rfl (by rfl) HEN.out (by simp only [List.map_toArray, List.map_cons, List.map_nil, Act.eval, Array.getD_eq_getD_getElem?, List.getElem?_toArray, List.getElem?_cons_succ, List.getElem?_cons_zero, Option.getD_some]; rfl) ?_
                  refine (HCC.out w' (XN.trans hw')).mono ?_
                  rintro e w4 ⟨rfl, hx⟩
                  exact ⟨_, rfl, hx, rfl⟩
                · (simp only [List.getElem_toArray, List.getElem_cons_succ, List.getElem_cons_zero, Act.put, List.setIfInBounds_toArray, List.set_cons_succ, List.set_cons_zero]; rfl)
                iterate 15 (apply wpOrd_det rfl rfl; (intro w' hw'; unfold opR; go_simp; exact ⟨Ext.refl _, rfl⟩); (simp only [List.getElem_toArray, List.getElem_cons_succ, List.getElem_cons_zero, Act.put, List.setIfInBounds_toArray, List.set_cons_succ, List.set_cons_zero]; rfl))
                refine wpOrd_nil rfl ?_
                intro W4 hW4
                have y4 := yN.trans hW4
                have X4 := X.trans y4
                have M4 := M.ext y4
                have mp4 := mp.ext y4
                have b4 := block_ext hW4 bN
                have t4' := (D4.out.ext y4).cell
                have s4 := y4.cell QH0.out
                have s5 := y4.cell QC0.out
                have j1 : (0 : Int) ≤ (i0 : Int) := by omega
                have j2 : (i0 : Int) < (n : Int) + 1 := by omega
                have j3 : (0 : Int) ≤ (j0 : Int) := by omega
                have j4 : (j0 : Int) < (m : Int) + 1 := by omega
                have KF4 := KF.trans ((KeepsOthers.ext y4).from W7.heap.size)
                have G0 := Lib.hid (D0.out.ext y4); have G1 := Lib.hid (D1.out.ext y4); have G2 := Lib.hid (D2.out.ext y4); have G4 := Lib.hid (D4.out.ext y4)
                have GE1 := Lib.hid (E1.out.ext y4); have GE2 := Lib.hid (E2.out.ext y4); have GE3 := Lib.hid (E3.out.ext y4)
                clear n0 n1 n2 t4 u1 u2 w1 w2' w3 v1 v2 v3 v4 v5 v6 XN yN hW4 bN X M mp KF D0 D1 D2 D4 E1 E2 E3 QH QC QC0 QH0 HCC HEN HNO
                have hcase : (o = none) ∨ (∃ x q, o = some (x, q) ∧ sc + tv < x) ∨ (∃ x q, o = some (x, q) ∧ ¬ sc + tv < x) := by
                  cases o with
                  | none => exact .inl rfl
                  | some y => by_cases h : sc + tv < y.1
                              · exact .inr (.inl ⟨y.1, y.2, rfl, h⟩)
                              · exact .inr (.inr ⟨y.1, y.2, rfl, h⟩)
                rcases hcase with rfl | ⟨x, q, rfl, hx⟩ | ⟨x, q, rfl, hx⟩
                rotate_left 2
                · rw [curT_here] at s5
                  go_wp2
                  gi_wp2
                  go_roundw
                  case rel =>
                    have hnx := cur_keep HOK.out HCUR.out (by rw [HSV.out]; exact Int.not_lt.2 (by omega))
                    exact ⟨k + 1, by omega, by go_num, by rw [hnx]; rfl, by rw [hnx]; exact M4, by rw [hnx]; exact mp4.mono (by omega) (fun _ _ _ h => h), G0.out, G1.out, G2.out, G4.out, GE1.out, GE2.out, GE3.out, X4, KF4⟩
                  case measure => simp [intOf]; omega
                · have HNX : Hid (cur ds hs p i0 j0 (k + 1) = some (sc + tv, k)) := Lib.hid (by rw [cur_new HOK.out HCUR.out, HSV.out])
                  go_wp2
                  gi_wp2
                  obtain ⟨A, hA⟩ : ∃ A : World → Prop, A = fun w => Mat (H4 + 1) g rows (m + 1) (curT ds hs p K i0 j0 none) w ∨ Mat (H4 + 1) g rows (m + 1) (curT ds hs p K i0 j0 (some (sc + tv, k))) w := ⟨_, rfl⟩
                  obtain ⟨Nw, hNw⟩ : ∃ A : World → Prop, A = fun w => Mat (H4 + 1) g rows (m + 1) (curT ds hs p K i0 j0 (some (sc + tv, k))) w := ⟨_, rfl⟩
                  have hput : ∀ w, A w → Nw (w.setCell ⟨r0, j0, none⟩ (.int .i64 (sc + tv))) := fun w h => by
                    rw [hA] at h
                    rw [hNw]
                    have hj : j0 < m + 1 := by omega
                    rcases h with h | h
                    · have := h.store rl0 hj (sc + tv)
                      rw [HR0.out] at this
                      exact this.congr fun i j _ _ => curT_up
                    · have := h.store rl0 hj (sc + tv)
                      rw [HR0.out] at this
                      exact this.congr fun i j _ _ => curT_up
                  have hNA : ∀ w, Nw w → A w := fun w h => by rw [hA]; rw [hNw] at h; exact .inr h
                  have hcell : ∀ w, A w → (∃ y, w.cell? ⟨r0, j0, none⟩ = some y) ∧ w.frozen? ⟨r0, j0, none⟩ = false := fun w h => by
                    rw [hA] at h
                    have hj : j0 < m + 1 := by omega
                    rw [← HR0.out]
                    rcases h with h | h
                    · exact ⟨⟨_, h.cell rl0 hj⟩, h.free rl0 j0⟩
                    · exact ⟨⟨_, h.cell rl0 hj⟩, h.free rl0 j0⟩
                  have hA4 : ∀ q, A { W4 with drawn := q } := fun q => by rw [hA]; exact .inl (M4.ext (Ext.drawn _ _))
                  have hrb : r0 < b := by rw [← HR0.out]; exact HRB.out _ (List.getElem_mem rl0)
                  have nr4 : H4 ≠ r0 := by have := hrg.1; omega
                  have nrg : g ≠ r0 := fun e => hrg.2 e.symm
                  have hb1r : b1 ≠ r0 := by have := HHb1.out; omega
                  have hNr : N ≠ r0 := by have := HNN.out; omega
                  have HNr := Lib.hid hNr; have HPUT := Lib.hid hput; have HCELL := Lib.hid hcell; have HNA := Lib.hid hNA; have HNW := Lib.hid hNw; have HAA := Lib.hid hA
                  have z0 : ∀ w, Cw r0 A W4 w → w.cell? ⟨H4, 0, none⟩ = some (.slice (some ⟨g, 0, none⟩) (n + 1) (n + 1)) := fun w h => h.1.cell t4' (fun e => nr4 (Option.some.inj e))
                  have z1 : ∀ w, Cw r0 A W4 w → w.cell? ⟨g, i0, none⟩ = some (.slice (some ⟨r0, 0, none⟩) (m + 1) (m + 1)) := fun w h => h.1.cell s4 (fun e => nrg (Option.some.inj e))
                  have z2 : ∀ w, Cw r0 A W4 w → w.cell? ⟨b1, 0, none⟩ = some (.map (some b)) := fun w h => h.1.cell GE1.out.cell (fun e => hb1r (Option.some.inj e))
                  have z3 : ∀ w, Cw r0 A W4 w → w.cell? ⟨N, 0, none⟩ = some (.int .i64 di) := fun w h => h.1.cell (block_cell b4 0 (.int .i64 di) rfl) (fun e => hNr (Option.some.inj e))
                  have z4 : ∀ w, Cw r0 A W4 w → w.cell? ⟨N, 1, none⟩ = some (.int .i64 dj) := fun w h => h.1.cell (block_cell b4 1 (.int .i64 dj) rfl) (fun e => hNr (Option.some.inj e))
                  have z5 : ∀ w, Cw r0 A W4 w → w.cell? ⟨N, 2, none⟩ = some (.func (.func fn) #[] cap) := fun w h => h.1.cell (block_cell b4 2 (.func (.func fn) #[] cap) rfl) (fun e => hNr (Option.some.inj e))
                  clear hA hNw hput hNA hcell s5 b4 t4' s4 hNr
                  apply wpIn_region_ordX [(0, .det _), (1, .det _), (2, .det _), (3, .det _), (4, .det _), (5, .det _), (6, .det _), (7, .det _), (8, .det _), (9, .det _), (10, .det _), (11, .det _), (12, .det _), (13, .new (fun _ => True) (fun _ w => Nw w) undef trivial)] 14 (Rw r0 A Nw) (Rw r0 A Nw) (Cw r0 A W4) (fun _ => True) wide
                    [(0,true), (1,true), (2,true), (3,true), (4,true), (5,true), (6,true), (7,true), (8,true), (9,true), (10,true), (11,true), (12,true), (13,true)] (by kernel_rfl) (by rintro ⟨_, _, h⟩; exact h) rfl (by decide) (fun _ _ h => h) stable_cw (fun _ _ _ _ => trivial) ⟨Kb.drawn _ _ _, hA4 _⟩ trivial ?main
                  case main =>
                    iterate 13 (apply ordX_det rfl rfl; (intro w' hw'; unfold opR; go_simp; exact ⟨Rw.refl _, rfl⟩); (simp only [List.getElem_toArray, List.getElem_cons_succ, List.getElem_cons_zero, Act.put, List.setIfInBounds_toArray, List.set_cons_succ, List.set_cons_zero]; rfl))
                    apply ordX_new (fun _ _ _ h k => k.2.2 h) rfl rfl
                    · intro w' hw'
                      obtain ⟨⟨y, hy⟩, hfr⟩ := HCELL.out w' hw'.2
                      have hfin := HPUT.out w' hw'.2
                      have HF := Lib.hid hfin
                      clear hfin z0 z1 z2 z3 z4 z5
                      unfold opR
                      go_simp
                      exact ⟨⟨kb_set _ _ _ _, fun _ => HNA.out _ HF.out, fun _ => HF.out⟩, HF.out⟩
                    · intro v; rfl
                    intro v13 _
                    refine ordX_nil rfl ?_
                    rintro w5 hw5 - ⟨-, hN5⟩
                    have mp5 := mp4.kb hw5.1 (by omega)
                    obtain ⟨D, hown, hD⟩ := mp5
                    have hval : (.agg #[.int .i64 di, .int .i64 dj, .func (.func fn) #[] cap] : Value) = mvV (mv3 (prV pd ph ps pq) (skV pp) k) := by rw [mvV, mv3_d, mv3_h, HFN.out, HDI.out, HDJ.out]
                    have hst := stR_mk (prV pd ph ps pq) (skV pp) hlt
                    rw [← hval] at hst
                    refine wpList_mapUpdate_own _ rfl _ _ _ 92 rfl 99 98 keyed2 Tryz.underlying92 (stR (prV pd ph ps pq) (skV pp)) b (3 * K + k) D rfl hown (by have := HKS.out; unfold maxLen; omega) (.agg #[.int .i64 i0, .int .i64 j0]) (.agg #[.int .i64 di, .int .i64 dj, .func (.func fn) #[] cap]) (klit i0 j0) rfl rfl (key2 (by omega) (by omega)) _ [] hst ?_
                    intro w6 hown6 hgr
                    have mp6 := Mp.put hD hown.isMap (show i0 ≤ 1000 by omega) (show j0 ≤ 1000 by omega) hlt hown6
                    have hM5 : Mat (H4 + 1) g rows (m + 1) (curT ds hs p K i0 j0 (some (sc + tv, k))) w5 := by rw [HNW.out] at hN5; exact hN5
                    have hgb : g ≠ b := by have := HH4.out; have := hrg.1; omega
                    have M6 := hM5.grown hgr hgb (fun r hr => by have := HRB.out r hr; omega)
                    have hBox : ∀ {β : Nat} {t : TypeId} {v : Value}, Boxed W4 β t v → β ≠ r0 → β ≠ b → Boxed w6 β t v := fun h h1 h2 => (h.kb hw5.1 h1).kept hgr (fun e => h2 (Option.some.inj e))
                    have hH := HH.out; have hH1 := HH1.out; have hH2 := HH2.out; have hHg := HG.out; have hH4 := HH4.out
                    have hb1' := HHb1.out; have hb2' := HHb2.out; have hb3' := HHb3.out
                    have hr1 := hrg.1
                    have Q0 := Lib.hid (hBox G0.out (by omega) (by omega)); have Q1 := Lib.hid (hBox G1.out (by omega) (by omega)); have Q2 := Lib.hid (hBox G2.out (by omega) (by omega)); have Q4 := Lib.hid (hBox G4.out (by omega) (by omega))
                    have QE1 := Lib.hid (hBox GE1.out (by omega) (by omega)); have QE2 := Lib.hid (hBox GE2.out (by omega) (by omega)); have QE3 := Lib.hid (hBox GE3.out (by omega) (by omega))
                    have X6 : Ext w2 w6 := Below.trans (Below.trans X4 (hw5.1.below X4.size (fun b' e => by have := Option.some.inj e; omega))) (below_grown hgr (by omega) (by have := X4.size; have := hw5.1.size; omega))
                    have KF6 := (KF4.trans (KeepsFrom.of_kb hw5.1 (fun ob hob => by
                      have := (M4.row i0 rl0)
                      rw [HR0.out] at this
                      obtain ⟨cs, hcs, _⟩ := this
                      rw [hcs] at hob; cases hob; rfl))).trans (KeepsFrom.of_grownBy hgr (fun j e => by have := Option.some.inj e; omega))
                    clear hH hH1 hH2 hHg hH4 hb1' hb2' hb3' hBox hM5 hN5 hown hown6 hgr hw5 hst hval z0 z1 z2 z3 z4 z5
                    go_wp2
                    gi_wp2
                    go_roundw
                    case rel => exact ⟨k + 1, by omega, by go_num, by rw [HNX.out]; rfl, by rw [HNX.out]; exact M6, by rw [HNX.out]; exact mp6.mono (by omega) (fun _ _ _ h => curS_up h), Q0.out, Q1.out, Q2.out, Q4.out, QE1.out, QE2.out, QE3.out, X6, KF6⟩
                    case measure => simp [intOf]; omega
                · rw [curT_here] at s5
                  have HNX : Hid (cur ds hs p i0 j0 (k + 1) = some (sc + tv, k)) := Lib.hid (by rw [cur_less HOK.out HCUR.out (by rw [HSV.out]; exact hx), HSV.out])
                  go_wp2
                  gi_wp2
                  clear hx
                  obtain ⟨A, hA⟩ : ∃ A : World → Prop, A = fun w => Mat (H4 + 1) g rows (m + 1) (curT ds hs p K i0 j0 (some (x, q))) w ∨ Mat (H4 + 1) g rows (m + 1) (curT ds hs p K i0 j0 (some (sc + tv, k))) w := ⟨_, rfl⟩
                  obtain ⟨Nw, hNw⟩ : ∃ A : World → Prop, A = fun w => Mat (H4 + 1) g rows (m + 1) (curT ds hs p K i0 j0 (some (sc + tv, k))) w := ⟨_, rfl⟩
                  have hput : ∀ w, A w → Nw (w.setCell ⟨r0, j0, none⟩ (.int .i64 (sc + tv))) := fun w h => by
                    rw [hA] at h
                    rw [hNw]
                    have hj : j0 < m + 1 := by omega
                    rcases h with h | h
                    · have := h.store rl0 hj (sc + tv)
                      rw [HR0.out] at this
                      exact this.congr fun i j _ _ => curT_up
                    · have := h.store rl0 hj (sc + tv)
                      rw [HR0.out] at this
                      exact this.congr fun i j _ _ => curT_up
                  have hNA : ∀ w, Nw w → A w := fun w h => by rw [hA]; rw [hNw] at h; exact .inr h
                  have hcell : ∀ w, A w → (∃ y, w.cell? ⟨r0, j0, none⟩ = some y) ∧ w.frozen? ⟨r0, j0, none⟩ = false := fun w h => by
                    rw [hA] at h
                    have hj : j0 < m + 1 := by omega
                    rw [← HR0.out]
                    rcases h with h | h
                    · exact ⟨⟨_, h.cell rl0 hj⟩, h.free rl0 j0⟩
                    · exact ⟨⟨_, h.cell rl0 hj⟩, h.free rl0 j0⟩
                  have hA4 : ∀ q, A { W4 with drawn := q } := fun q => by rw [hA]; exact .inl (M4.ext (Ext.drawn _ _))
                  have hrb : r0 < b := by rw [← HR0.out]; exact HRB.out _ (List.getElem_mem rl0)
                  have nr4 : H4 ≠ r0 := by have := hrg.1; omega
                  have nrg : g ≠ r0 := fun e => hrg.2 e.symm
                  have hb1r : b1 ≠ r0 := by have := HHb1.out; omega
                  have hNr : N ≠ r0 := by have := HNN.out; omega
                  have HNr := Lib.hid hNr; have HPUT := Lib.hid hput; have HCELL := Lib.hid hcell; have HNA := Lib.hid hNA; have HNW := Lib.hid hNw; have HAA := Lib.hid hA
                  have z0 : ∀ w, Cw r0 A W4 w → w.cell? ⟨H4, 0, none⟩ = some (.slice (some ⟨g, 0, none⟩) (n + 1) (n + 1)) := fun w h => h.1.cell t4' (fun e => nr4 (Option.some.inj e))
                  have z1 : ∀ w, Cw r0 A W4 w → w.cell? ⟨g, i0, none⟩ = some (.slice (some ⟨r0, 0, none⟩) (m + 1) (m + 1)) := fun w h => h.1.cell s4 (fun e => nrg (Option.some.inj e))
                  have z2 : ∀ w, Cw r0 A W4 w → w.cell? ⟨b1, 0, none⟩ = some (.map (some b)) := fun w h => h.1.cell GE1.out.cell (fun e => hb1r (Option.some.inj e))
                  have z3 : ∀ w, Cw r0 A W4 w → w.cell? ⟨N, 0, none⟩ = some (.int .i64 di) := fun w h => h.1.cell (block_cell b4 0 (.int .i64 di) rfl) (fun e => hNr (Option.some.inj e))
                  have z4 : ∀ w, Cw r0 A W4 w → w.cell? ⟨N, 1, none⟩ = some (.int .i64 dj) := fun w h => h.1.cell (block_cell b4 1 (.int .i64 dj) rfl) (fun e => hNr (Option.some.inj e))
                  have z5 : ∀ w, Cw r0 A W4 w → w.cell? ⟨N, 2, none⟩ = some (.func (.func fn) #[] cap) := fun w h => h.1.cell (block_cell b4 2 (.func (.func fn) #[] cap) rfl) (fun e => hNr (Option.some.inj e))
                  clear hA hNw hput hNA hcell s5 b4 t4' s4 hNr
                  apply wpIn_region_ordX [(0, .det _), (1, .det _), (2, .det _), (3, .det _), (4, .det _), (5, .det _), (6, .det _), (7, .det _), (8, .det _), (9, .det _), (10, .det _), (11, .det _), (12, .det _), (13, .new (fun _ => True) (fun _ w => Nw w) undef trivial)] 14 (Rw r0 A Nw) (Rw r0 A Nw) (Cw r0 A W4) (fun _ => True) wide
                    [(0,true), (1,true), (2,true), (3,true), (4,true), (5,true), (6,true), (7,true), (8,true), (9,true), (10,true), (11,true), (12,true), (13,true)] (by kernel_rfl) (by rintro ⟨_, _, h⟩; exact h) rfl (by decide) (fun _ _ h => h) stable_cw (fun _ _ _ _ => trivial) ⟨Kb.drawn _ _ _, hA4 _⟩ trivial ?main
                  case main =>
                    iterate 13 (apply ordX_det rfl rfl; (intro w' hw'; unfold opR; go_simp; exact ⟨Rw.refl _, rfl⟩); (simp only [List.getElem_toArray, List.getElem_cons_succ, List.getElem_cons_zero, Act.put, List.setIfInBounds_toArray, List.set_cons_succ, List.set_cons_zero]; rfl))
                    apply ordX_new (fun _ _ _ h k => k.2.2 h) rfl rfl
                    · intro w' hw'
                      obtain ⟨⟨y, hy⟩, hfr⟩ := HCELL.out w' hw'.2
                      have hfin := HPUT.out w' hw'.2
                      have HF := Lib.hid hfin
                      clear hfin z0 z1 z2 z3 z4 z5
                      unfold opR
                      go_simp
                      exact ⟨⟨kb_set _ _ _ _, fun _ => HNA.out _ HF.out, fun _ => HF.out⟩, HF.out⟩
                    · intro v; rfl
                    intro v13 _
                    refine ordX_nil rfl ?_
                    rintro w5 hw5 - ⟨-, hN5⟩
                    have mp5 := mp4.kb hw5.1 (by omega)
                    obtain ⟨D, hown, hD⟩ := mp5
                    have hval : (.agg #[.int .i64 di, .int .i64 dj, .func (.func fn) #[] cap] : Value) = mvV (mv3 (prV pd ph ps pq) (skV pp) k) := by rw [mvV, mv3_d, mv3_h, HFN.out, HDI.out, HDJ.out]
                    have hst := stR_mk (prV pd ph ps pq) (skV pp) hlt
                    rw [← hval] at hst
                    refine wpList_mapUpdate_own _ rfl _ _ _ 92 rfl 99 98 keyed2 Tryz.underlying92 (stR (prV pd ph ps pq) (skV pp)) b (3 * K + k) D rfl hown (by have := HKS.out; unfold maxLen; omega) (.agg #[.int .i64 i0, .int .i64 j0]) (.agg #[.int .i64 di, .int .i64 dj, .func (.func fn) #[] cap]) (klit i0 j0) rfl rfl (key2 (by omega) (by omega)) _ [] hst ?_
                    intro w6 hown6 hgr
                    have mp6 := Mp.put hD hown.isMap (show i0 ≤ 1000 by omega) (show j0 ≤ 1000 by omega) hlt hown6
                    have hM5 : Mat (H4 + 1) g rows (m + 1) (curT ds hs p K i0 j0 (some (sc + tv, k))) w5 := by rw [HNW.out] at hN5; exact hN5
                    have hgb : g ≠ b := by have := HH4.out; have := hrg.1; omega
                    have M6 := hM5.grown hgr hgb (fun r hr => by have := HRB.out r hr; omega)
                    have hBox : ∀ {β : Nat} {t : TypeId} {v : Value}, Boxed W4 β t v → β ≠ r0 → β ≠ b → Boxed w6 β t v := fun h h1 h2 => (h.kb hw5.1 h1).kept hgr (fun e => h2 (Option.some.inj e))
                    have hH := HH.out; have hH1 := HH1.out; have hH2 := HH2.out; have hHg := HG.out; have hH4 := HH4.out
                    have hb1' := HHb1.out; have hb2' := HHb2.out; have hb3' := HHb3.out
                    have hr1 := hrg.1
                    have Q0 := Lib.hid (hBox G0.out (by omega) (by omega)); have Q1 := Lib.hid (hBox G1.out (by omega) (by omega)); have Q2 := Lib.hid (hBox G2.out (by omega) (by omega)); have Q4 := Lib.hid (hBox G4.out (by omega) (by omega))
                    have QE1 := Lib.hid (hBox GE1.out (by omega) (by omega)); have QE2 := Lib.hid (hBox GE2.out (by omega) (by omega)); have QE3 := Lib.hid (hBox GE3.out (by omega) (by omega))
                    have X6 : Ext w2 w6 := Below.trans (Below.trans X4 (hw5.1.below X4.size (fun b' e => by have := Option.some.inj e; omega))) (below_grown hgr (by omega) (by have := X4.size; have := hw5.1.size; omega))
                    have KF6 := (KF4.trans (KeepsFrom.of_kb hw5.1 (fun ob hob => by
                      have := (M4.row i0 rl0)
                      rw [HR0.out] at this
                      obtain ⟨cs, hcs, _⟩ := this
                      rw [hcs] at hob; cases hob; rfl))).trans (KeepsFrom.of_grownBy hgr (fun j e => by have := Option.some.inj e; omega))
                    clear hH hH1 hH2 hHg hH4 hb1' hb2' hb3' hBox hM5 hN5 hown hown6 hgr hw5 hst hval z0 z1 z2 z3 z4 z5
                    go_wp2
                    gi_wp2
                    go_roundw
                    case rel => exact ⟨k + 1, by omega, by go_num, by rw [HNX.out]; rfl, by rw [HNX.out]; exact M6, by rw [HNX.out]; exact mp6.mono (by omega) (fun _ _ _ h => curS_up h), Q0.out, Q1.out, Q2.out, Q4.out, QE1.out, QE2.out, QE3.out, X6, KF6⟩
                    case measure => simp [intOf]; omega
          · obtain rfl : k = 3 := by omega
            have M9 := M.congr (T' := tabK ds hs p (K + 1)) fun i j hi hj => curT_end HERE.out (by rw [HRL.out] at hi; rw [HN.out]; omega) (by rw [HM.out]; omega)
            have mp9 : Mp (prV pd ph ps pq) (skV pp) b (3 * (K + 1)) (stK ds hs p (K + 1)) wr := mp.mono (by omega) fun a c q h => curS_end HERE.out h
            clear M mp
            gi_wp2
            exact ⟨KF, M9, mp9, d0, d1, d2, d4, e1, e2, e3, X⟩
end Go.Proofs.YthpfalbeieloaaaGreatDoor
