/-
  Walks: schismatop's groups as a whole.
-/
import Derived.Test.YtgfaiihekibcbaaGreatDoorGpP
set_option maxRecDepth 100000
set_option linter.unusedVariables false
namespace Go.Proofs.YtgfaiihekibcbaaGreatDoor
open Go.RowKit Go.Sx Go.Sx.Sz Go.Sx.Sc Go.Sx.Po Go.Sx.Ch

set_option maxHeartbeats 8000000 in
theorem groups_walk (vn vp vc : Value) (s : Sc) (hb : scB s = true) (w : World) (S : ScR w vn vp vc s) :
    Calls Tryz.prog 8 #[.agg #[.int .i64 s.voices, vn, vp, vc]] w fun e w' => ∃ v, e = .returned v ∧ Sl w' 1 encZ v (labL s) ∧ Ext w w' := by
  have hs := scB_iff.1 hb
  obtain ⟨an, cn, rfl, -, -, hln⟩ := S.nt.len
  obtain ⟨ap, cp, rfl, -, -, hlp⟩ := S.pr.len
  obtain ⟨ac, cc, rfl, -, -, hlc⟩ := S.cd.len
  obtain ⟨N, hN⟩ : ∃ N, s.notes.length = N := ⟨_, rfl⟩
  obtain ⟨M, hM⟩ : ∃ M, s.pairs.length = M := ⟨_, rfl⟩
  have hn2 : N ≤ 200 := by rw [← hN]; exact hs.sz.2.1
  have hm2 : M ≤ 400 := by rw [← hM]; exact hs.sz.2.2.1
  have HN := Lib.hid hN; have HM := Lib.hid hM; have HSO := Lib.hid hs; have HSB := Lib.hid hb
  have S' : ScR w (.slice an N cn) (.slice ap M cp) (.slice ac s.cads.length cc) s := by rw [← hN, ← hM]; exact S
  have HS := Lib.hid S'
  have HLF : Hid (joinsG (joinsL s N M) (lab0 N) = labL s) := Lib.hid (by unfold labL lab0; rw [hN, hM])
  rw [hN, hM]
  have X0 : Ext w (w.alloc (.cells #[.int .i64 s.voices, .slice an N cn, .slice ap M cp, .slice ac s.cads.length cc] 26)) := (by repeat (first | with_reducible exact Ext.refl _ | with_reducible assumption | with_reducible apply Ext.alloc | with_reducible apply Ext.drew | (with_reducible refine Ext.setCell ?_ (by (try simp) <;> omega) _)))
  have b0_0 := block_new w (.cells #[.int .i64 s.voices, .slice an N cn, .slice ap M cp, .slice ac s.cads.length cc] 26)
  obtain ⟨W0, hW0⟩ : ∃ W, (w.alloc (.cells #[.int .i64 s.voices, .slice an N cn, .slice ap M cp, .slice ac s.cads.length cc] 26)) = W := ⟨_, rfl⟩
  obtain ⟨B0, hB0⟩ : ∃ B, w.heap.size = B := ⟨_, rfl⟩
  rw [hW0] at X0 b0_0
  rw [hB0] at b0_0
  have HZ0 : Hid (w.heap.size ≤ B0) := Lib.hid (by omega)
  have HW0 := Lib.hid hW0; have HB0 := Lib.hid hB0
  clear hW0 hB0
  have c0 := block_cell b0_0 0 _ rfl; have c1 := block_cell b0_0 1 _ rfl; have c2 := block_cell b0_0 2 _ rfl; have c3 := block_cell b0_0 3 _ rfl
  have HQ0 := Lib.hid b0_0
  have hz0 := HZ0.out
  clear hs hb S S' hN hM hln hlp hlc b0_0
  go_enter Tryz.func8, Tryz.ntmps8
  go_upto_region 1 with fail
  rw [HW0.out, HB0.out]
  have E1 : W0.heap.size = B0 + 1 := by
    have h1 := HW0.out; have h2 := HB0.out
    rw [← h1, World.size_alloc, h2]
  clear HW0 HB0
  go_wp2_with (at_make; go_must (refine wpList_mk (e := 3) (sz := 1) (bytes := 8) (enc := encZ) (z := .int .i64 0) (0 : Int) Tryz.underlying24 (by kernel_rfl) rfl rfl rfl _ _ rfl N rfl rfl (by omega) (by omega) ?_; intro cs hbk; have d1 := (Ext.alloc' W0 (.cells cs 3)).cell c1))
  rw [E1] at hbk
  have bx := block_at (w := W0.alloc (.cells cs 3)) (n := B0 + 1 + 1) (by simp [E1]) (.cells #[.slice (some ⟨B0 + 1, 0, none⟩) N N] 24)
  have X1 : Ext W0 ((W0.alloc (.cells cs 3)).alloc (.cells #[.slice (some ⟨B0 + 1, 0, none⟩) N N] 24)) := (by repeat (first | with_reducible exact Ext.refl _ | with_reducible assumption | with_reducible apply Ext.alloc | with_reducible apply Ext.drew | (with_reducible refine Ext.setCell ?_ (by (try simp) <;> omega) _)))
  have hbk1 := hbk.ext (Ext.alloc' _ (.cells #[.slice (some ⟨B0 + 1, 0, none⟩) N N] 24))
  have SC1 := Lib.hid (block_ext X1 HQ0.out)
  obtain ⟨W1, hW1⟩ : ∃ W1, (W0.alloc (.cells cs 3)).alloc (.cells #[.slice (some ⟨B0 + 1, 0, none⟩) N N] 24) = W1 := ⟨_, rfl⟩
  rw [hW1] at bx X1 hbk1 SC1 ⊢
  have BX1 := Lib.hid bx; have HB1 := Lib.hid hbk1
  have X10 := X0.trans X1
  have EX := Lib.hid fun W' (y : Kb (some (B0 + 1)) W1 W') => show Ext w W' from Below.trans X10 (y.below X10.size (fun b e => by cases e; omega))
  have SCW := Lib.hid fun W' (y : Kb (some (B0 + 1)) W1 W') => And.intro (y.at SC1.out (by omega)) (y.at BX1.out (by omega))
  clear c0 c1 c2 c3 d1 hbk hbk1 X1 hW1 E1 X10
  have cb := block_cell bx 0 _ rfl
  clear bx
  go_loopw [17] (fun i wr => ∃ k : Nat, k ≤ N ∧ i = .int .i64 k ∧ Bk wr (B0 + 1) 3 encZ ((List.range k).map (fun (n : Nat) => (n : Int)) ++ List.replicate (N - k) 0) ∧ Kb (some (B0 + 1)) W1 wr) (fun i _ => N - (intOf i).toNat)
  case atStart => exact ⟨0, Nat.zero_le _, rfl, by simpa using HB1.out, Kb.refl _ _⟩
  case round =>
    obtain ⟨k, hk, rfl, H, K⟩ := hrel
    clear cb HB1
    obtain ⟨sc, bx⟩ := SCW.out _ K
    have cb := block_cell bx 0 _ rfl
    by_cases hlt : k < N
    · have hkl : k < ((List.range k).map (fun (n : Nat) => (n : Int)) ++ List.replicate (N - k) 0).length := by simp; omega
      have hput := H.put (sz := 1) (fun _ _ => rfl) (k : Int) rfl k hkl
      rw [Nat.mul_one, lab0_set N k hlt _ rfl] at hput
      have hput : Bk (wr.setCell ⟨B0 + 1, k, none⟩ (.int .i64 (k : Int))) (B0 + 1) 3 encZ ((List.range (k + 1)).map (fun (n : Nat) => (n : Int)) ++ List.replicate (N - (k + 1)) 0) := hput
      have fk := H.free k
      obtain ⟨z0, hz⟩ : ∃ z, wr.cell? ⟨B0 + 1, k, none⟩ = some z := by
        have := H.cell (sz := 1) (fun _ _ => rfl) k 0 hkl (by omega)
        exact ⟨_, by simpa using this⟩
      have HP := Lib.hid hput
      have HK := Lib.hid (K.trans (kb_setCells [.int .i64 (k : Int)] wr k (Kb.refl _ _)))
      have i1 : (0 : Int) ≤ (k : Int) := by omega
      have i2 : (k : Int) < (N : Int) := by omega
      clear sc bx H K hput hkl
      go_wp2
      go_roundw
      case rel => exact ⟨k + 1, by omega, by go_num, HP.out, HK.out⟩
      case measure => simp [intOf]; omega
    · obtain rfl : k = N := by omega
      have H0 : Hid (Bk wr (B0 + 1) 3 encZ (joinsG (joinsL s 0 0) (lab0 k))) := Lib.hid (by
        rw [joins_zero]
        have : (List.range k).map (fun (n : Nat) => (n : Int)) ++ List.replicate (k - k) 0 = lab0 k := by simp [lab0]
        rw [← this]; exact H)
      have HK0 := Lib.hid K
      clear sc bx H K hlt
      go_wp2
      go_loopw [28] (fun i wr => ∃ j : Nat, j ≤ k ∧ i = .int .i64 j ∧ Bk wr (B0 + 1) 3 encZ (joinsG (joinsL s j 0) (lab0 k)) ∧ Kb (some (B0 + 1)) W1 wr) (fun i _ => k - (intOf i).toNat)
      case atStart => exact ⟨0, Nat.zero_le _, rfl, H0.out, HK0.out⟩
      case round =>
        obtain ⟨j, hj, rfl, H, K⟩ := hrel
        clear cb H0 HK0
        obtain ⟨sc, bx⟩ := SCW.out _ K
        by_cases hlt : j < k
        · have c0 := block_cell sc 0 _ rfl; have c1 := block_cell sc 1 _ rfl; have c2 := block_cell sc 2 _ rfl; have c3 := block_cell sc 3 _ rfl
          have hjn : j < s.notes.length := by rw [HN.out]; exact hlt
          have BW := Lib.hid (rbefore19_walk _ _ _ s j wr (HS.out.ext (EX.out _ K)))
          rw [bef_R HSB.out hjn] at BW
          have hbl := bef_lt HSO.out hjn
          obtain ⟨b, hbf⟩ : ∃ b, befF s j = b := ⟨_, rfl⟩
          rw [hbf] at BW hbl
          have HBF := Lib.hid hbf; have HH := Lib.hid H; have HK := Lib.hid K; have HBX := Lib.hid bx; have HJN := Lib.hid (joins_note s j)
          clear sc bx H K hjn hbf
          go_wp2_with fail
          refine BW.out.mono ?_
          rintro e w5 ⟨rfl, x5⟩
          have HX5 := Lib.hid x5
          clear c0 c1 c2 c3 x5
          by_cases hb0 : 0 ≤ b
          · obtain ⟨b, rfl⟩ : ∃ n : Nat, b = n := ⟨b.toNat, by omega⟩
            have JW := Lib.hid (grp1_walk (B0 + 1 + 1) (B0 + 1) k b j (joinsG (joinsL s j 0) (lab0 k)) (by rw [joinsG_len, lab0_len]) (by omega) (by omega) hlt w5 (block_ext HX5.out HBX.out) (HH.out.ext HX5.out) (by omega))
            go_wp2_with fail
            refine JW.out.mono ?_
            rintro e w6 ⟨rfl, h6, k6⟩
            have HG' : Hid (Bk w6 (B0 + 1) 3 encZ (joinsG (joinsL s (j + 1) 0) (lab0 k))) := Lib.hid (by
              rw [HJN.out, HBF.out, if_pos hb0, Int.toNat_natCast, joinsG_snoc]; exact h6)
            have HK' := Lib.hid ((HK.out.trans (HX5.out.kb _)).trans k6)
            clear h6 k6
            go_wp2
            go_roundw
            case rel => exact ⟨j + 1, by omega, by go_num, HG'.out, HK'.out⟩
            case measure => simp [intOf]; omega
          · have HG' : Hid (Bk w5 (B0 + 1) 3 encZ (joinsG (joinsL s (j + 1) 0) (lab0 k))) := Lib.hid (by
              rw [HJN.out, HBF.out, if_neg hb0, List.append_nil]; exact HH.out.ext HX5.out)
            have HK' := Lib.hid (HK.out.trans (HX5.out.kb (some (B0 + 1))))
            go_wp2
            go_roundw
            case rel => exact ⟨j + 1, by omega, by go_num, HG'.out, HK'.out⟩
            case measure => simp [intOf]; omega
        · obtain rfl : j = k := by omega
          have c2 := block_cell sc 2 _ rfl
          have H0 := Lib.hid H; have HK0 := Lib.hid K
          clear sc bx H K hlt
          go_wp2
          go_loopw [51] (fun i wr => ∃ m : Nat, m ≤ M ∧ i = .int .i64 m ∧ Bk wr (B0 + 1) 3 encZ (joinsG (joinsL s j m) (lab0 j)) ∧ Kb (some (B0 + 1)) W1 wr) (fun i _ => M - (intOf i).toNat)
          case atStart => exact ⟨0, Nat.zero_le _, rfl, H0.out, HK0.out⟩
          case round =>
            obtain ⟨m, hm, rfl, H, K⟩ := hrel
            clear c2 H0 HK0
            obtain ⟨sc, bx⟩ := SCW.out _ K
            by_cases hlt : m < M
            · have hmp : m < s.pairs.length := by rw [HM.out]; exact hlt
              obtain ⟨bp, op, ep, A⟩ := Sl.pr (HS.out.ext (EX.out _ K)).pr m hmp
              subst ep
              rw [← Sc.P_eq hmp] at A
              have hpo := HSO.out.pr.1 m hmp
              unfold pairOk at hpo
              obtain ⟨p, hp⟩ : ∃ p, s.P m = p := ⟨_, rfl⟩
              rw [hp] at A hpo
              obtain ⟨⟨pa, pb, pw, pd⟩, rfl⟩ : ∃ q : Pr, p = q := ⟨_, rfl⟩
              simp only at hpo
              obtain ⟨a, rfl⟩ : ∃ a : Nat, pa = a := ⟨pa.toNat, by omega⟩
              obtain ⟨b, rfl⟩ : ∃ b : Nat, pb = b := ⟨pb.toNat, by omega⟩
              have hab : a < j ∧ b < j := by
                have := HN.out
                omega
              have HP := Lib.hid hp
              obtain ⟨q0, q1, q2, q3, q4, q5, q6, q7, q8⟩ := A
              simp only at q0 q1 q2 q3 q4 q5 q6 q7 q8
              have HH := Lib.hid H; have HK := Lib.hid K; have HBX := Lib.hid bx; have HJP := Lib.hid (joins_pair s j hmp)
              have i1 : (0 : Int) ≤ (m : Int) := by omega
              have i2 : (m : Int) < (M : Int) := by omega
              have t1 : decide (m < M) = true := decide_eq_true hlt
              clear sc bx H K hmp hp hpo
              by_cases hd : pd = 0
              · subst hd
                have y5 := Ext.alloc' wr (.cells #[.int .i64 (a : Int), .int .i64 (b : Int), .int .i64 pw.a, .int .i64 pw.b, .int .i64 pw.c, .int .i64 pw.d, .int .i64 pw.e, .int .i64 pw.f, .int .i64 0] 48)
                have JW := Lib.hid (grp1_walk (B0 + 1 + 1) (B0 + 1) j a b (joinsG (joinsL s j m) (lab0 j)) (by rw [joinsG_len, lab0_len]) (by omega) hab.1 hab.2 _ (block_ext y5 HBX.out) (HH.out.ext y5) (by omega))
                have HY5 := Lib.hid y5
                clear y5
                go_wp2_with fail
                refine JW.out.mono ?_
                rintro e w6 ⟨rfl, h6, k6⟩
                have HG' : Hid (Bk w6 (B0 + 1) 3 encZ (joinsG (joinsL s j (m + 1)) (lab0 j))) := Lib.hid (by
                  rw [HJP.out, HP.out, if_pos rfl, joinsG_snoc]; exact h6)
                have HK' := Lib.hid ((HK.out.trans (HY5.out.kb _)).trans k6)
                clear h6 k6 q0 q1 q2 q3 q4 q5 q6 q7 q8
                go_wp2
                go_roundw
                case rel => exact ⟨m + 1, by omega, by go_num, HG'.out, HK'.out⟩
                case measure => simp [intOf]; omega
              · have t2 : (pd == 0) = false := by simpa using hd
                have y5 := Ext.alloc' wr (.cells #[.int .i64 (a : Int), .int .i64 (b : Int), .int .i64 pw.a, .int .i64 pw.b, .int .i64 pw.c, .int .i64 pw.d, .int .i64 pw.e, .int .i64 pw.f, .int .i64 pd] 48)
                have HG' : Hid (Bk (wr.alloc (.cells #[.int .i64 (a : Int), .int .i64 (b : Int), .int .i64 pw.a, .int .i64 pw.b, .int .i64 pw.c, .int .i64 pw.d, .int .i64 pw.e, .int .i64 pw.f, .int .i64 pd] 48)) (B0 + 1) 3 encZ (joinsG (joinsL s j (m + 1)) (lab0 j))) := Lib.hid (by
                  rw [HJP.out, HP.out, if_neg hd, List.append_nil]; exact HH.out.ext y5)
                have HK' := Lib.hid (HK.out.trans (y5.kb (some (B0 + 1))))
                clear hd y5
                go_wp2
                go_roundw
                case rel => exact ⟨m + 1, by omega, by go_num, HG'.out, HK'.out⟩
                case measure => simp [intOf]; omega
            · obtain rfl : m = M := by omega
              have cb := block_cell bx 0 _ rfl
              rw [HLF.out] at H
              have FIN := Lib.hid (And.intro H (EX.out _ K))
              have hlen : Hid ((labL s).length = j) := Lib.hid (by rw [labL_len, HN.out])
              clear sc bx H K hlt
              go_wp2
              go_ret
              exact ⟨_, rfl, FIN.out.1.sl (sz := 1) (fun _ _ => rfl) hlen.out.symm (by rw [hlen.out]; omega), FIN.out.2⟩
end Go.Proofs.YtgfaiihekibcbaaGreatDoor
