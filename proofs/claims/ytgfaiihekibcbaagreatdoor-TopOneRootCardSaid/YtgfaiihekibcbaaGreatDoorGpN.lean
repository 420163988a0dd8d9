/-
  Walks of chain: newGraph.
-/
import Derived.Test.YtgfaiihekibcbaaGreatDoorGpM
import Derived.Test.YtgfaiihekibcbaaGreatDoorLibG
import Derived.Test.YtgfaiihekibcbaaGreatDoorScI
set_option maxRecDepth 100000
set_option linter.unusedVariables false
namespace Go.Proofs.YtgfaiihekibcbaaGreatDoor
open Go.RowKit Go.Sx Go.Sx.Sz Go.Sx.Sc Go.Sx.Po Go.Sx.Ch

def setE (rows : Nat → List Ed) (i : Nat) (l : List Ed) : Nat → List Ed := fun n => if n = i then l else rows n
theorem Gph.sorted {B gb : Nat} {vs : List Value} {rows : Nat → List Ed} {w w' : World} {i : Nat} {l : List Ed} (h : Gph B gb vs rows w) (hi : i < vs.length) (O : OwnR w' B 76 9 encE vs[i] l) (K : Ks (ownL vs[i]) w w') : Gph B gb vs (setE rows i l) w' := by
  have hl := h.lt
  refine ⟨h.blk.ks K (fun hm => h.own_ne hi hl (mem_ownL.1 hm)), fun j hj => ?_, h.apart, hl⟩
  unfold setE
  by_cases e : j = i
  · subst e; rw [if_pos rfl]; exact O
  · rw [if_neg e]
    exact (h.row j hj).ks K (fun b hb hm => h.apart j i hj hi e b hb (mem_ownL.1 hm))
theorem Gph.gr {B gb N : Nat} {vs : List Value} {rows : Nat → List Ed} {w : World} (h : Gph B gb vs rows w) (hN : vs.length = N) (hN2 : N ≤ 1000) (hr : ∀ n, (rows n).length ≤ 100000) : GrR w (.slice (some ⟨gb, 0, none⟩) N N) N rows := by
  refine ⟨vs, ?_, hN, fun i hi => (h.row i hi).sl (fun _ _ => rfl) (by have := hr i; omega)⟩
  have := h.blk.sl (sz := 1) (fun _ _ => rfl) hN.symm (by omega)
  exact this

set_option maxHeartbeats 8000000 in
theorem newgraph_walk (vn vp vc : Value) (s : Sc) (hb : scB s = true) (w : World) (S : ScR w vn vp vc s) :
    Calls Tryz.prog 16 #[.agg #[.int .i64 s.voices, vn, vp, vc]] w fun e w' => ∃ vg rows, e = .returned vg ∧ GrR w' vg s.notes.length rows ∧ RowsOf s rows ∧ (∀ n, (rows n).Pairwise fun a b => a.t ≤ b.t) ∧ Ext w w' := by
  have hs := scB_iff.1 hb
  obtain ⟨an, cn, rfl, -, -, hln⟩ := S.nt.len
  obtain ⟨ap, cp, rfl, -, -, hlp⟩ := S.pr.len
  obtain ⟨ac, cc, rfl, -, -, hlc⟩ := S.cd.len
  obtain ⟨N, hN⟩ : ∃ N, s.notes.length = N := ⟨_, rfl⟩
  obtain ⟨M, hM⟩ : ∃ M, s.pairs.length = M := ⟨_, rfl⟩
  have hn2 : N ≤ 200 := by rw [← hN]; exact hs.sz.2.1
  have hm2 : M ≤ 400 := by rw [← hM]; exact hs.sz.2.2.1
  have HN := Lib.hid hN; have HM := Lib.hid hM; have HSO := Lib.hid hs; have HSB := Lib.hid hb
  have S' : ScR w (.slice an N cn) (.slice ap M cp) (.slice ac s.cads.length cc) s := by rw [← hN, ← hM]; exact S
  have HS := Lib.hid S'
  rw [hN, hM]
  have X0 : Ext w (w.alloc (.cells #[.int .i64 s.voices, .slice an N cn, .slice ap M cp, .slice ac s.cads.length cc] 26)) := (by repeat (first | with_reducible exact Ext.refl _ | with_reducible assumption | with_reducible apply Ext.alloc | with_reducible apply Ext.drew | (with_reducible refine Ext.setCell ?_ (by (try simp) <;> omega) _)))
  have b0_0 := block_new w (.cells #[.int .i64 s.voices, .slice an N cn, .slice ap M cp, .slice ac s.cads.length cc] 26)
  obtain ⟨W0, hW0⟩ : ∃ W, (w.alloc (.cells #[.int .i64 s.voices, .slice an N cn, .slice ap M cp, .slice ac s.cads.length cc] 26)) = W := ⟨_, rfl⟩
  obtain ⟨B0, hB0⟩ : ∃ B, w.heap.size = B := ⟨_, rfl⟩
  rw [hW0] at X0 b0_0
  rw [hB0] at b0_0
  have HZ0 : Hid (w.heap.size ≤ B0) := Lib.hid (by omega)
  have HW0 := Lib.hid hW0; have HB0 := Lib.hid hB0
  clear hW0 hB0
  have c0 := block_cell b0_0 0 _ rfl; have c1 := block_cell b0_0 1 _ rfl; have c2 := block_cell b0_0 2 _ rfl; have c3 := block_cell b0_0 3 _ rfl
  have HQ0 := Lib.hid b0_0
  have hz0 := HZ0.out
  clear hs hb S S' hN hM hln hlp hlc b0_0
  go_enter Tryz.func16, Tryz.ntmps16
  go_upto_region 1 with fail
  rw [HW0.out, HB0.out]
  have E1 : W0.heap.size = B0 + 1 := by
    have h1 := HW0.out; have h2 := HB0.out
    rw [← h1, World.size_alloc, h2]
  clear HW0 HB0
  go_wp2_with (at_make; go_must (refine wpList_mk (enc := enc1) (sz := 1) (bytes := 24) (z := .slice none 0 0) (Value.slice none 0 0) Tryz.underlying53 (by kernel_rfl) rfl rfl rfl _ _ rfl N rfl rfl (by omega) (by omega) ?_; intro cs hbk; have d1 := (Ext.alloc' W0 (.cells cs 74)).cell c1))
  rw [E1] at hbk
  have bx := block_at (w := W0.alloc (.cells cs 74)) (n := B0 + 1 + 1) (by simp [E1]) (.cells #[.slice (some ⟨B0 + 1, 0, none⟩) N N] 53)
  have X1 : Ext W0 ((W0.alloc (.cells cs 74)).alloc (.cells #[.slice (some ⟨B0 + 1, 0, none⟩) N N] 53)) := (by repeat (first | with_reducible exact Ext.refl _ | with_reducible assumption | with_reducible apply Ext.alloc | with_reducible apply Ext.drew | (with_reducible refine Ext.setCell ?_ (by (try simp) <;> omega) _)))
  have hbk1 := hbk.ext (Ext.alloc' _ (.cells #[.slice (some ⟨B0 + 1, 0, none⟩) N N] 53))
  have hz1 : ((W0.alloc (.cells cs 74)).alloc (.cells #[.slice (some ⟨B0 + 1, 0, none⟩) N N] 53)).heap.size = B0 + 1 + 1 + 1 := by simp [E1]
  have SC1 := Lib.hid (block_ext X1 HQ0.out)
  obtain ⟨W1, hW1⟩ : ∃ W1, (W0.alloc (.cells cs 74)).alloc (.cells #[.slice (some ⟨B0 + 1, 0, none⟩) N N] 53) = W1 := ⟨_, rfl⟩
  rw [hW1] at bx X1 hbk1 hz1 SC1 ⊢
  have G1 : Hid (Gph (B0 + 1 + 1 + 1) (B0 + 1) (List.replicate N (.slice none 0 0)) (rowF (edgesL s 0 0)) W1) := Lib.hid ⟨hbk1, fun i hi => by
      rw [List.getElem_replicate, edges_zero]
      exact OwnR.nil, fun i j hi hj _ g hg => (by rw [List.getElem_replicate] at hg; cases hg), by omega⟩
  have BX1 := Lib.hid bx
  have HZ1 := Lib.hid hz1
  have X10 := X0.trans X1
  have EX := Lib.hid fun W' (y : Kg (B0 + 1 + 1 + 1) (B0 + 1) W1 W') => show Ext w W' from Below.trans X10 (y.below X10.size (by omega) (by omega))
  have SCW := Lib.hid fun W' (y : Kg (B0 + 1 + 1 + 1) (B0 + 1) W1 W') => And.intro (y.at SC1.out (by omega) (by omega)) (y.at BX1.out (by omega) (by omega))
  clear c0 c1 c2 c3 d1 hbk hbk1 bx X1 hW1 hz1 E1 X10
  go_loopw [20] (fun i wr => ∃ (k : Nat) (vs : List Value), k ≤ N ∧ i = .int .i64 k ∧ vs.length = N ∧ Gph (B0 + 1 + 1 + 1) (B0 + 1) vs (rowF (edgesL s k 0)) wr ∧ Kg (B0 + 1 + 1 + 1) (B0 + 1) W1 wr) (fun i _ => N - (intOf i).toNat)
  case atStart => exact ⟨0, _, Nat.zero_le _, rfl, by simp, G1.out, Kg.refl _ _ _⟩
  case round =>
    obtain ⟨k, vs, hk, rfl, hvl, G, KG⟩ := hrel
    clear G1
    obtain ⟨sc, bx⟩ := SCW.out _ KG
    by_cases hlt : k < N
    · have c0 := block_cell sc 0 _ rfl; have c1 := block_cell sc 1 _ rfl; have c2 := block_cell sc 2 _ rfl; have c3 := block_cell sc 3 _ rfl
      have hkn : k < s.notes.length := by rw [HN.out]; exact hlt
      have BW := Lib.hid (before_walk _ _ _ s k wr (HS.out.ext (EX.out _ KG)))
      rw [bef_R HSB.out hkn] at BW
      have hbl := bef_lt HSO.out hkn
      have HG := Lib.hid G; have HKG := Lib.hid KG; have HVL := Lib.hid hvl; have HKN := Lib.hid hkn
      obtain ⟨b, hbf⟩ : ∃ b, befF s k = b := ⟨_, rfl⟩
      rw [hbf] at BW hbl
      have HBF := Lib.hid hbf
      have hkw := Lib.hid (show B0 + 1 + 1 + 1 ≤ wr.heap.size by have := KG.size; have := HZ1.out; omega)
      have HBX := Lib.hid bx
      clear sc bx G KG hvl hkn hbf
      go_wp2_with fail
      refine BW.out.mono ?_
      rintro e w5 ⟨rfl, x5⟩
      have HX5 := Lib.hid x5
      clear c0 c1 c2 c3 x5
      by_cases hb0 : 0 ≤ b
      · obtain ⟨b, rfl⟩ : ∃ n : Nat, b = n := ⟨b.toNat, by omega⟩
        have hlen : ∀ n, (rowF (edgesL s k 0) n).length ≤ 2000 := fun n => by
          have h1 := rowF_len (edgesL s k 0) n
          have h2 := edges_len s k 0
          omega
        have JW := Lib.hid (join_walk b k 1 V6.zero (Sml.zero (by omega)) (B0 + 1 + 1) (B0 + 1) (B0 + 1 + 1 + 1) N vs (rowF (edgesL s k 0)) HVL.out (by omega) hlt (by omega) (by have := hlen b; omega) (fun e => by
          have := hlen k
          unfold addE; split
          · rw [List.length_append, List.length_singleton]; omega
          · omega) w5 (block_ext HX5.out HBX.out) (by omega) (by omega) (Nat.le_trans hkw.out HX5.out.size) (HG.out.ext HX5.out))
        clear hlen
        go_wp2_with fail
        refine JW.out.mono ?_
        rintro e w6 ⟨rfl, vs', hv', g', k'⟩
        have HG' : Hid (Gph (B0 + 1 + 1 + 1) (B0 + 1) vs' (rowF (edgesL s (k + 1) 0)) w6) := Lib.hid (by
          have e1 : tieE s k = edgeTwo b k 1 V6.zero := by unfold tieE; rw [HBF.out, if_pos hb0]; simp
          rw [edges_note, e1, rowF_two]; exact g')
        have HK' := Lib.hid ((HKG.out.trans (HX5.out.kg _ _)).trans k')
        clear g' k'
        go_wp2
        go_roundw
        case rel => exact ⟨k + 1, vs', by omega, by go_num, hv', HG'.out, HK'.out⟩
        case measure => simp [intOf]; omega
      · have HG' : Hid (Gph (B0 + 1 + 1 + 1) (B0 + 1) vs (rowF (edgesL s (k + 1) 0)) w5) := Lib.hid (by
          have e1 : tieE s k = [] := by unfold tieE; rw [HBF.out, if_neg hb0]
          rw [edges_note, e1, List.append_nil]; exact HG.out.ext HX5.out)
        have HK' := Lib.hid (HKG.out.trans (HX5.out.kg (B0 + 1 + 1 + 1) (B0 + 1)))
        go_wp2
        go_roundw
        case rel => exact ⟨k + 1, vs, by omega, by go_num, HVL.out, HG'.out, HK'.out⟩
        case measure => simp [intOf]; omega
    · obtain rfl : k = N := by omega
      have c2 := block_cell sc 2 _ rfl
      have HG := Lib.hid G; have HKG := Lib.hid KG; have HVL := Lib.hid hvl
      clear G KG hvl sc bx hlt
      have HE0 : Hid (edgesL s k 0 = edgesL s k 0) := Lib.hid rfl
      go_wp2
      go_loopw [40] (fun i wr => ∃ (j : Nat) (vs : List Value), j ≤ M ∧ i = .int .i64 j ∧ vs.length = k ∧ Gph (B0 + 1 + 1 + 1) (B0 + 1) vs (rowF (edgesL s k j)) wr ∧ Kg (B0 + 1 + 1 + 1) (B0 + 1) W1 wr) (fun i _ => M - (intOf i).toNat)
      case atStart => exact ⟨0, vs, Nat.zero_le _, rfl, HVL.out, HG.out, HKG.out⟩
      case round =>
        obtain ⟨j, vs2, hj, rfl, hvl, G, KG⟩ := hrel
        clear HG HKG HVL c2
        obtain ⟨sc, bx⟩ := SCW.out _ KG
        by_cases hlt : j < M
        · have hjp : j < s.pairs.length := by rw [HM.out]; exact hlt
          obtain ⟨bp, op, ep, A⟩ := Sl.pr (HS.out.ext (EX.out _ KG)).pr j hjp
          subst ep
          rw [← Sc.P_eq hjp] at A
          have hpo := HSO.out.pr.1 j hjp
          unfold pairOk at hpo
          have hpm : s.P j ∈ s.pairs := by rw [Sc.P_eq hjp]; exact List.getElem_mem hjp
          have hwt := sml_want' HSO.out hpm
          obtain ⟨p, hp⟩ : ∃ p, s.P j = p := ⟨_, rfl⟩
          rw [hp] at A hpo hwt
          obtain ⟨⟨pa, pb, pw, pd⟩, rfl⟩ : ∃ q : Pr, p = q := ⟨_, rfl⟩
          simp only at hpo hwt
          obtain ⟨a, rfl⟩ : ∃ a : Nat, pa = a := ⟨pa.toNat, by omega⟩
          obtain ⟨b, rfl⟩ : ∃ b : Nat, pb = b := ⟨pb.toNat, by omega⟩
          have hab : a < k ∧ b < k := by
            have := HN.out
            omega
          have HP := Lib.hid hp
          obtain ⟨q0, q1, q2, q3, q4, q5, q6, q7, q8⟩ := A
          simp only at q0 q1 q2 q3 q4 q5 q6 q7 q8
          have HG := Lib.hid G; have HKG := Lib.hid KG; have HVL := Lib.hid hvl; have HWT := Lib.hid hwt
          have hkw := Lib.hid (show B0 + 1 + 1 + 1 ≤ wr.heap.size by have := KG.size; have := HZ1.out; omega)
          have HBX := Lib.hid bx
          have HEP := Lib.hid (edges_pair s k hjp)
          have i1 : (0 : Int) ≤ (j : Int) := by omega
          have i2 : (j : Int) < (M : Int) := by omega
          have t1 : decide (j < M) = true := decide_eq_true hlt
          clear sc bx G KG hvl hjp hp hpm hwt hpo
          by_cases hd : pd = 0
          · subst hd
            have y5 := Ext.alloc' wr (.cells #[.int .i64 (a : Int), .int .i64 (b : Int), .int .i64 pw.a, .int .i64 pw.b, .int .i64 pw.c, .int .i64 pw.d, .int .i64 pw.e, .int .i64 pw.f, .int .i64 0] 48)
            have hlen : ∀ n, (rowF (edgesL s k j) n).length ≤ 2000 := fun n => by
              have h1 := rowF_len (edgesL s k j) n
              have h2 := edges_len s k j
              omega
            have JW := Lib.hid (join_walk a b 2 pw HWT.out (B0 + 1 + 1) (B0 + 1) (B0 + 1 + 1 + 1) k vs2 (rowF (edgesL s k j)) HVL.out hab.1 hab.2 (by omega) (by have := hlen a; omega) (fun e => by
              have := hlen b
              unfold addE; split
              · rw [List.length_append, List.length_singleton]; omega
              · omega) _ (block_ext y5 HBX.out) (by omega) (by omega) (Nat.le_trans hkw.out y5.size) (HG.out.ext y5))
            have HY5 := Lib.hid y5
            clear hlen y5
            go_wp2_with fail
            refine JW.out.mono ?_
            rintro e w6 ⟨rfl, vs', hv', g', k'⟩
            have HG' : Hid (Gph (B0 + 1 + 1 + 1) (B0 + 1) vs' (rowF (edgesL s k (j + 1))) w6) := Lib.hid (by
              have e1 : purE (s.P j) = edgeTwo a b 2 pw := by rw [HP.out]; unfold purE; rw [if_pos rfl]; simp
              rw [HEP.out, e1, rowF_two]; exact g')
            have HK' := Lib.hid ((HKG.out.trans (HY5.out.kg _ _)).trans k')
            clear g' k' q0 q1 q2 q3 q4 q5 q6 q7 q8
            go_wp2
            go_roundw
            case rel => exact ⟨j + 1, vs', by omega, by go_num, hv', HG'.out, HK'.out⟩
            case measure => simp [intOf]; omega
          · have t2 : (pd == 0) = false := by simpa using hd
            have y5 := Ext.alloc' wr (.cells #[.int .i64 (a : Int), .int .i64 (b : Int), .int .i64 pw.a, .int .i64 pw.b, .int .i64 pw.c, .int .i64 pw.d, .int .i64 pw.e, .int .i64 pw.f, .int .i64 pd] 48)
            have HG' : Hid (Gph (B0 + 1 + 1 + 1) (B0 + 1) vs2 (rowF (edgesL s k (j + 1))) (wr.alloc (.cells #[.int .i64 (a : Int), .int .i64 (b : Int), .int .i64 pw.a, .int .i64 pw.b, .int .i64 pw.c, .int .i64 pw.d, .int .i64 pw.e, .int .i64 pw.f, .int .i64 pd] 48))) := Lib.hid (by
              have e1 : purE (s.P j) = [] := by rw [HP.out]; unfold purE; rw [if_neg hd]
              rw [HEP.out, e1, List.append_nil]; exact HG.out.ext y5)
            have HK' := Lib.hid (HKG.out.trans (y5.kg (B0 + 1 + 1 + 1) (B0 + 1)))
            clear hd y5
            go_wp2
            go_roundw
            case rel => exact ⟨j + 1, vs2, by omega, by go_num, HVL.out, HG'.out, HK'.out⟩
            case measure => simp [intOf]; omega
        · obtain rfl : j = M := by omega
          have cb := block_cell bx 0 _ rfl
          have HALL : Hid (edgesL s k j = allE s) := Lib.hid (by unfold allE; rw [HN.out, HM.out])
          rw [HALL.out] at G
          have HG := Lib.hid G; have HKG := Lib.hid KG; have HVL := Lib.hid hvl
          have hlen : ∀ n, (rowF (allE s) n).length ≤ 2000 := fun n => by
            have h1 := rowF_len (allE s) n
            have h2 := edges_len s k j
            rw [HALL.out] at h2
            omega
          have HLEN := Lib.hid hlen
          clear G KG hvl sc bx hlt hlen
          go_wp2
          go_loopw [58] (fun i wr => ∃ (m : Nat) (rows : Nat → List Ed), m ≤ k ∧ i = .int .i64 m ∧ Gph (B0 + 1 + 1 + 1) (B0 + 1) vs2 rows wr ∧ (∀ n, (rows n).Perm (rowF (allE s) n)) ∧ (∀ n, n < m → (rows n).Pairwise fun a b => a.t ≤ b.t) ∧ Kg (B0 + 1 + 1 + 1) (B0 + 1) W1 wr) (fun i _ => k - (intOf i).toNat)
          case atStart => exact ⟨0, _, Nat.zero_le _, rfl, HG.out, fun n => List.Perm.refl _, fun n hn => absurd hn (Nat.not_lt_zero _), HKG.out⟩
          case round =>
            obtain ⟨m, rows, hm, rfl, G, hperm, hsort, KG⟩ := hrel
            clear HG HKG cb
            have hvl := HVL.out
            by_cases hlt : m < k
            · have hmv : m < vs2.length := by omega
              obtain ⟨ch, -⟩ := G.head hmv
              have hlm : (rows m).length ≤ 2000 := by rw [(hperm m).length_eq]; exact HLEN.out m
              obtain ⟨vm, hvm⟩ : ∃ z, vs2[m] = z := ⟨_, rfl⟩
              have OM := G.row m hmv
              rw [hvm] at ch OM
              have SW := Lib.hid (sort_walk vm (rows m) (B0 + 1 + 1 + 1) wr OM (by omega))
              obtain ⟨a8, c8, e8⟩ := OM.len
              have HG := Lib.hid G; have HKG := Lib.hid KG; have HPE := Lib.hid hperm; have HSR := Lib.hid hsort; have HVM := Lib.hid hvm
              have i1 : (0 : Int) ≤ (m : Int) := by omega
              have i2 : (m : Int) < (k : Int) := by omega
              obtain ⟨q8, hq8⟩ : ∃ q, (rows m).length = q := ⟨_, rfl⟩
              rw [hq8] at e8
              clear OM G KG hperm hsort hvm hlm hq8
              subst e8
              go_wp2_with fail
              refine SW.out.mono ?_
              rintro e w5 ⟨rfl, l', p1, p2, O5, K5⟩
              rw [← HVM.out] at O5 K5
              have HG5 := Lib.hid (HG.out.sorted hmv O5 K5)
              have HK5 := Lib.hid (HKG.out.trans (K5.kg (B := B0 + 1 + 1 + 1) (g := B0 + 1) (fun b hb => .inl (World.ownsRow.lt (HG.out.row m hmv) b (mem_ownL.1 hb)).1)))
              have HP1 := Lib.hid p1; have HP2 := Lib.hid p2
              clear O5 K5 p1 p2 ch
              go_wp2
              go_roundw
              case rel =>
                refine ⟨m + 1, _, by omega, by go_num, HG5.out, fun n => ?_, fun n hn => ?_, HK5.out⟩
                · unfold setE
                  split
                  · next e => subst e; exact HP1.out.trans (HPE.out n)
                  · exact HPE.out n
                · unfold setE
                  split
                  · exact HP2.out
                  · exact HSR.out n (by omega)
              case measure => simp [intOf]; omega
            · obtain rfl : m = k := by omega
              obtain ⟨-, bx⟩ := SCW.out _ KG
              have cb := block_cell bx 0 _ rfl
              have hl2 : ∀ n, (rows n).length ≤ 100000 := fun n => by
                have := HLEN.out n
                rw [(hperm n).length_eq]; omega
              have hout : ∀ n, ¬ n < m → rows n = [] := fun n hn => by
                have h1 : rowF (allE s) n = [] := by
                  unfold rowF
                  rw [List.filter_eq_nil_iff]
                  intro e he
                  have := (allE_ok HSO.out he).1
                  rw [HN.out] at this
                  simp; omega
                have := hperm n
                rw [h1] at this
                exact this.eq_nil
              have FIN := Lib.hid (And.intro (G.gr hvl (by omega) hl2) (And.intro hperm (And.intro (fun n => show (rows n).Pairwise (fun a b => a.t ≤ b.t) from by
                by_cases hn : n < m
                · exact hsort n hn
                · rw [hout n hn]; exact List.Pairwise.nil) (EX.out _ KG))))
              clear G KG hperm hsort bx hl2 hout hvl
              go_wp2
              go_ret
              exact ⟨_, rows, rfl, FIN.out.1, FIN.out.2.1, FIN.out.2.2.1, FIN.out.2.2.2⟩
end Go.Proofs.YtgfaiihekibcbaaGreatDoor
