/-
  Walk: score.voices.
-/
import Derived.Test.YtdpegkkbhanjkaaDoorScC
import Derived.Test.YtdpegkkbhanjkaaDoorLibB
set_option linter.unusedVariables false
namespace Go.Proofs.YtdpegkkbhanjkaaDoor
open Go.RowKit Go.Sx Go.Sx.Sz Go.Sx.Sc

set_option maxRecDepth 100000 in
theorem zero8 : ∃ zs : Array Value, (∀ u : World, (zeroValue 115).run Tryd.prog u = .ok (.agg zs) u) ∧ zs.toList = (lasts []).flatMap encN ∧ ¬ zs = #[] := by
  refine ⟨((lasts []).flatMap encN).toArray, fun u => ?_, by simp, by simp [lasts, encN]; exact ⟨0, by omega⟩⟩
  have h : (Tryd.prog.info? 115).map (fun i => i.zero) = some (some (.agg ((lasts []).flatMap encN).toArray)) := by kernel_rfl
  cases hi : Tryd.prog.info? 115 with
  | none => rw [hi] at h; cases h
  | some i =>
    rw [hi] at h
    have hz : i.zero = some (.agg ((lasts []).flatMap encN).toArray) := by simpa using h
    generalize ((lasts []).flatMap encN).toArray = z at *
    simp [zeroValue, typeInfo, hi, hz]
set_option maxRecDepth 100000 in
theorem eqv_run (a b : V6) (w : World) : (Op.equalIn 10000 41 (.agg #[.int .i64 a.a, .int .i64 a.b, .int .i64 a.c, .int .i64 a.d, .int .i64 a.e, .int .i64 a.f]) (.agg #[.int .i64 b.a, .int .i64 b.b, .int .i64 b.c, .int .i64 b.d, .int .i64 b.e, .int .i64 b.f])).run Tryd.prog w = .ok (decide (a = b)) w :=
  run_eq_v6 Tryd.underlying41 Tryd.underlying3 (by kernel_rfl) a b 9998 w
set_option maxRecDepth 100000 in
theorem encN_len (n : Nt) : (encN n).length = 10 := rfl

set_option maxRecDepth 100000 in
set_option maxHeartbeats 4000000 in
theorem voices_walk (vn vp vc : Value) (s : Sc) (h8 : s.voices ≤ 8) (hnt : ntOk s) (w : World) (S : ScR w vn vp vc s) : Calls Tryd.prog 52 #[.agg #[.int .i64 s.voices, vn, vp, vc]] w fun e w' => e = .returned (.bool (decide (vcOk s))) ∧ Ext w w' := by
  obtain ⟨an, cn, rfl, -, -, hln⟩ := S.nt.len
  obtain ⟨ap, cp, rfl, -, -, -⟩ := S.pr.len
  obtain ⟨ac, cc, rfl, -, -, -⟩ := S.cd.len
  have SN := S.nt
  obtain ⟨zs, hz, hzl, hzn⟩ := zero8
  go_enter Tryd.func52, Tryd.ntmps52
  go_wp2
  have XW := Ext.alloc' w (.cells #[.int .i64 s.voices, .slice an s.notes.length cn, .slice ap s.pairs.length cp, .slice ac s.cads.length cc] 26)
  obtain ⟨B, hB⟩ : ∃ B, w.heap.size = B := ⟨_, rfl⟩
  obtain ⟨W, hW⟩ : ∃ W, w.alloc (.cells #[.int .i64 s.voices, .slice an s.notes.length cn, .slice ap s.pairs.length cp, .slice ac s.cads.length cc] 26) = W := ⟨_, rfl⟩
  have hWz : W.heap.size = B + 1 := by rw [← hW, ← hB]; simp
  have bk := Bk.mk (xs := lasts []) (enc := encN) W 115 zs hzl
  have X0 := Ext.alloc' W (.cells zs 115)
  rw [hB, hW]
  rw [hW] at XW
  rw [hWz] at bk
  obtain ⟨W1, hW1⟩ : ∃ W1, W.alloc (.cells zs 115) = W1 := ⟨_, rfl⟩
  rw [hW1] at bk X0 ⊢
  have HWZ := Lib.hid hWz; have HNT := Lib.hid hnt
  clear hB hW S hW1 hz hzl hzn hWz hnt
  go_loopw [10] (fun i wr => ∃ k : Nat, k ≤ s.notes.length ∧ i = .int .i64 k ∧ (∀ i, i < k → vcAt s i) ∧ Bk wr (B + 1) 115 encN (lasts (s.notes.take k)) ∧ Ext W wr) (fun i _ => s.notes.length - (intOf i).toNat)
  case atStart => exact ⟨0, by omega, rfl, fun i h => by omega, bk, X0⟩
  case round =>
    clear bk X0
    obtain ⟨k, hk, rfl, hall, bk, X⟩ := hrel
    have HA := Lib.hid hall
    by_cases hlt : k < s.notes.length
    · obtain ⟨b, o, rfl, A⟩ := Sl.nt ((SN.ext XW).ext X) k hlt
      have hN := Sc.N_eq hlt
      have hiff := vcAt_iff HNT.out hlt hall
      have hno := HNT.out.note hlt
      have htk := take_N hlt
      rw [← hN] at A
      obtain ⟨⟨nv, nf, nu, nx, nt⟩, hn⟩ : ∃ n, s.N k = n := ⟨_, rfl⟩
      rw [hn] at A hiff hno htk
      have HTK := Lib.hid htk
      have HN := Lib.hid hn
      unfold noteOk at hno
      obtain ⟨q0, q1, q2, q3, q4, q5, q6, q7, q8, q9⟩ := A
      dsimp only at q0 q1 q2 q3 q4 q5 q6 q7 q8 q9 hno hiff
      obtain ⟨⟨v0, v1⟩, ⟨f0, f1⟩, u1, -⟩ := hno
      obtain ⟨v, rfl⟩ : ∃ v : Nat, nv = v := ⟨nv.toNat, by omega⟩
      have hv8 : v < 8 := by omega
      obtain ⟨bf, hbf⟩ : ∃ bf, lastV (s.notes.take k) (v : Int) = bf := ⟨_, rfl⟩
      rw [hbf] at hiff
      have hl8 := lasts_len (s.notes.take k)
      have hc := fun j hj => bk.cell (sz := 10) (fun n _ => encN_len n) v j (by rw [hl8]; exact hv8) hj
      have hg : ∀ h, (lasts (s.notes.take k))[v]'h = bf := fun h => by rw [lasts_get, hbf]
      simp only [hg] at hc
      have c0 := hc 0 (by omega); have c1 := hc 1 (by omega); have c2 := hc 2 (by omega); have c3 := hc 3 (by omega); have c4 := hc 4 (by omega); have c5 := hc 5 (by omega); have c6 := hc 6 (by omega); have c7 := hc 7 (by omega); have c8 := hc 8 (by omega); have c9 := hc 9 (by omega)
      simp only [encN, List.getD_eq_getElem?_getD, List.getElem?_cons_succ, List.getElem?_cons_zero, Option.getD_some, Nat.add_zero] at c0 c1 c2 c3 c4 c5 c6 c7 c8 c9
      have XX := XW.trans X
      have hz := bk.lt
      have hzn : ¬ B + 1 = wr.heap.size := by omega
      have hzn2 : ¬ B = wr.heap.size := by omega
      have hzn3 : ¬ B + 1 = wr.heap.size + 1 := by omega
      have hzl : B + 1 < wr.heap.size + 1 := by omega
      have hzl2 : B + 1 < wr.heap.size + 1 + 1 := by omega
      have bad : ¬ vcAt s k → decide (vcOk s) = false := fun h => vc_bad hlt h
      have BAD := Lib.hid bad
      have HIFF := Lib.hid hiff
      have hput := bk.put (sz := 10) (fun n _ => encN_len n) ⟨(v : Int), nf, nu, nx, nt⟩ rfl v (by rw [hl8]; exact hv8)
      rw [← lasts_snoc _ _ v rfl hv8, ← htk] at hput
      have HPUT := Lib.hid hput
      have hxs := setCells_ext X (g := B + 1) (by rw [HWZ.out]; exact Nat.le_refl _) (encN ⟨(v : Int), nf, nu, nx, nt⟩) (v * 10)
      have HXS := Lib.hid hxs
      have z1 := bk.free
      have iv0 : (0 : Int) ≤ (v : Int) := by omega
      have iv1 : (v : Int) < 8 := by omega
      have step : vcAt s k → ∀ i, i < k + 1 → vcAt s i := fun h i hi => by
        rcases Nat.lt_or_ge i k with h1 | h1
        · exact HA.out i h1
        · obtain rfl : i = k := by omega
          exact h
      have STEP := Lib.hid step
      clear hn bad hall hiff htk hbf hl8 hc hg bk hput hxs step v0 v1
      obtain ⟨wo, rfl⟩ : ∃ wo : World, wo = wr := ⟨_, rfl⟩
      by_cases h1 : nf < bf.u
      · go_wp2
        go_ret
        exact ⟨by rw [BAD.out (fun h => by have := (HIFF.out.1 h).1; omega)] <;> rfl, (by repeat (first | with_reducible exact Ext.refl _ | with_reducible assumption | with_reducible apply Ext.alloc | with_reducible apply Ext.drew | (with_reducible refine Ext.setCell ?_ (by (try simp) <;> omega) _)))⟩
      cases nt with
      | false =>
        have hgood : vcAt s k := HIFF.out.2 ⟨by omega, fun h => by cases h⟩
        have HG := Lib.hid hgood
        clear hgood
        go_wp2
        go_roundw
        case rel => exact ⟨k + 1, by omega, by go_num, STEP.out HG.out, (Bk.alloc (Bk.alloc HPUT.out _) _), (HXS.out.alloc _).alloc _⟩
        case measure => simp [intOf]; omega
      | true =>
        by_cases h2 : bf.u = nf
        · have e2 : (bf.u != nf) = false := by rw [bne_eq_false_iff_eq]; exact h2
          by_cases h3 : bf.u = 0
          · have e3 : (bf.u == 0) = true := by rw [h3]; rfl
            go_wp2
            go_ret
            exact ⟨by rw [BAD.out (fun h => ((HIFF.out.1 h).2 (by first | rfl | trivial)).2.1 h3)] <;> rfl, (by repeat (first | with_reducible exact Ext.refl _ | with_reducible assumption | with_reducible apply Ext.alloc | with_reducible apply Ext.drew | (with_reducible refine Ext.setCell ?_ (by (try simp) <;> omega) _)))⟩
          · have e3 : (bf.u == 0) = false := by rw [beq_eq_false_iff_ne]; exact h3
            have hq := fun w => eqv_run bf.x nx w
            by_cases h4 : bf.x = nx
            · have hgood : vcAt s k := HIFF.out.2 ⟨by omega, fun _ => ⟨h2, h3, h4⟩⟩
              have HG := Lib.hid hgood
              rw [decide_eq_true h4] at hq
              clear hgood h2 h3 h4
              go_wp2
              go_roundw
              case rel => exact ⟨k + 1, by omega, by go_num, STEP.out HG.out, (Bk.alloc (Bk.alloc HPUT.out _) _), (HXS.out.alloc _).alloc _⟩
              case measure => simp [intOf]; omega
            · have hbad := BAD.out (fun h => h4 ((HIFF.out.1 h).2 rfl).2.2)
              have HBAD := Lib.hid hbad
              rw [decide_eq_false h4] at hq
              clear hbad h4
              go_wp2
              go_ret
              exact ⟨by rw [HBAD.out] <;> rfl, (by repeat (first | with_reducible exact Ext.refl _ | with_reducible assumption | with_reducible apply Ext.alloc | with_reducible apply Ext.drew | (with_reducible refine Ext.setCell ?_ (by (try simp) <;> omega) _)))⟩
        · have e2 : (bf.u != nf) = true := by rw [bne_iff_ne]; exact h2
          go_wp2
          go_ret
          exact ⟨by rw [BAD.out (fun h => h2 ((HIFF.out.1 h).2 (by first | rfl | trivial)).1)] <;> rfl, (by repeat (first | with_reducible exact Ext.refl _ | with_reducible assumption | with_reducible apply Ext.alloc | with_reducible apply Ext.drew | (with_reducible refine Ext.setCell ?_ (by (try simp) <;> omega) _)))⟩
    · obtain rfl : k = s.notes.length := by omega
      have hd : vcOk s := fun i hi => HA.out i hi
      have HD := Lib.hid hd
      clear hall bk hd
      go_wp2
      go_ret
      exact ⟨by rw [decide_eq_true HD.out] <;> rfl, XW.trans X⟩
end Go.Proofs.YtdpegkkbhanjkaaDoor
