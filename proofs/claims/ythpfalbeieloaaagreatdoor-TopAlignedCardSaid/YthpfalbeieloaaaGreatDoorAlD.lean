/-
  Walk: align.Valid.
-/
import Derived.Test.YthpfalbeieloaaaGreatDoorAlC
set_option maxRecDepth 100000
set_option linter.unusedVariables false
namespace Go.Proofs.YthpfalbeieloaaaGreatDoor
open Go.RowKit Go.Sx Go.Sx.Sz Go.Sx.Al

theorem et_z : ET Tryz.prog 24 3 1 8 := .mk' (z := .int .i64 0) Tryz.underlying24 (by kernel_rfl) rfl (by decide) (by decide)

theorem alOk_no1 {ds : List Due} {hs : List Hrd} {p : Prc} {d : Due} (hd : d ∈ ds) (h : within d.x 48 = false) : alOk ds hs p = false := by
  cases hh : alOk ds hs p with
  | false => rfl
  | true => rw [(alOk_iff.1 hh).dx d hd] at h; cases h
theorem alOk_no2 {ds : List Due} {hs : List Hrd} {p : Prc} {d : Hrd} (hd : d ∈ hs) (h : szOk d.s = false) : alOk ds hs p = false := by
  cases hh : alOk ds hs p with
  | false => rfl
  | true => rw [(alOk_iff.1 hh).hx d hd] at h; cases h
theorem alOk_eq {ds : List Due} {hs : List Hrd} {p : Prc} (h1 : ∀ d ∈ ds, within d.x 48 = true) (h2 : ∀ h ∈ hs, szOk h.s = true) :
    alOk ds hs p = ((decide (ds.length ≤ 100) && decide (hs.length ≤ 100)) && (tickR (ds.map (·.t)) && tickR (hs.map (·.t))) && prOk p) := by
  unfold alOk tickR
  rw [List.all_eq_true.2 h1, List.all_eq_true.2 h2]; simp

set_option maxHeartbeats 4000000 in
theorem alvalid_walk (vd vh : Value) (ds : List Due) (hs : List Hrd) (p : Prc) (hn1 : ds.length * 56 ≤ 140737488351232) (hn2 : hs.length * 24 ≤ 140737488351232) (w : World) (Sd : Sl w 7 encD vd ds) (Sh : Sl w 3 encH vh hs) :
    Calls Tryz.prog 9 #[vd, vh, .agg #[.int .i64 p.skip, .int .i64 p.off]] w fun e w' => e = .returned (.bool (alOk ds hs p)) ∧ Ext w w' := by
  obtain ⟨a?, cap, rfl, -, -, h3⟩ := Sd.len
  obtain ⟨ah, ch, rfl, -, -, h4⟩ := Sh.len
  go_enter Tryz.func9, Tryz.ntmps9
  go_wp2
  obtain ⟨N, hN⟩ : ∃ N, w.heap.size = N := ⟨_, rfl⟩
  obtain ⟨W, hW⟩ : ∃ W, w.alloc (.cells #[.int .i64 p.skip, .int .i64 p.off] 30) = W := ⟨_, rfl⟩
  have dW := block_at hN (.cells #[.int .i64 p.skip, .int .i64 p.off] 30)
  have XW := Ext.alloc' w (.cells #[.int .i64 p.skip, .int .i64 p.off] 30)
  rw [hW] at dW XW
  rw [hN, hW]
  have HN := Lib.hid hN
  clear hN hW
  replace Sd := Sd.ext XW
  replace Sh := Sh.ext XW
  go_loopw [7, 15] (fun v i wr => ∃ k : Nat, k ≤ ds.length ∧ i = .int .i64 k ∧ (∀ d ∈ ds.take k, within d.x 48 = true) ∧ OwnR wr W.heap.size 3 1 encZ v ((ds.take k).map (·.t)) ∧ Ext W wr) (fun _ i _ => ds.length - (intOf i).toNat)
  case atStart => exact ⟨0, by omega, rfl, fun d hd => by simp at hd, OwnR.nil, Ext.refl _⟩
  case round =>
    obtain ⟨k, hk, rfl, hall, own, X⟩ := hrel
    have HA := Lib.hid hall
    clear hall
    by_cases hlt : k < ds.length
    · obtain ⟨b, o, rfl, q0, q1, q2, q3, q4, q5, q6⟩ := Sl.due (Sd.ext X) k hlt
      obtain ⟨d, hd⟩ : ∃ d, ds[k] = d := ⟨_, rfl⟩
      rw [hd] at q0 q1 q2 q3 q4 q5 q6
      have HD := Lib.hid hd
      clear hd
      cases hwi : within d.x 48 with
      | true =>
        have HW := Lib.hid hwi
        have HT := Lib.hid (List.take_succ_eq_append_getElem hlt)
        clear hwi
        go_wp2_with fail
        refine (interval_walk d.x _).mono ?_
        rw [HW.out]
        rintro e w1 ⟨rfl, x1⟩
        have y1 : Ext wr w1 := Ext.trans (by repeat (first | with_reducible exact Ext.refl _ | with_reducible assumption | with_reducible apply Ext.alloc | with_reducible apply Ext.drew | (with_reducible refine Ext.setCell ?_ (by (try simp) <;> omega) _))) x1
        have c1 := x1.cell (alloc_cell wr #[.int .i64 d.t, .int .i64 d.x.a, .int .i64 d.x.b, .int .i64 d.x.c, .int .i64 d.x.d, .int .i64 d.x.e, .int .i64 d.x.f] 48 0 _ rfl)
        have own1 := own.ext y1
        have X1 := X.trans y1
        have hsz := X1.size
        clear x1 y1 q0 q1 q2 q3 q4 q5 q6 own
        go_wp2_with (at_builtin; go_must (refine wpList_own1 et_z rfl _ _ rfl own1 rfl d.t rfl rfl rfl (by simp [encZ, Value.oneCell']) (by simp; omega) hsz ?_; intro v' w2 hown' hb' happ _))
        go_roundw
        case rel => exact ⟨k + 1, by omega, by go_num, fun u hu => by
            rw [HT.out, List.mem_append, List.mem_singleton] at hu
            rcases hu with hu | rfl
            · exact HA.out u hu
            · rw [HD.out]; exact HW.out, by rw [HT.out, List.map_append, HD.out]; exact hown', Below.trans X1 hb'⟩
        case measure => simp [intOf]; omega
      | false =>
        have HW := Lib.hid hwi
        clear hwi
        go_wp2_with fail
        refine (interval_walk d.x _).mono ?_
        rw [HW.out]
        rintro e w1 ⟨rfl, x1⟩
        have y1 : Ext wr w1 := Ext.trans (by repeat (first | with_reducible exact Ext.refl _ | with_reducible assumption | with_reducible apply Ext.alloc | with_reducible apply Ext.drew | (with_reducible refine Ext.setCell ?_ (by (try simp) <;> omega) _))) x1
        have X1 := (XW.trans X).trans y1
        go_wp2
        go_ret
        exact ⟨by rw [alOk_no1 (by rw [← HD.out]; exact List.getElem_mem _) HW.out] <;> rfl, X1⟩
    · obtain rfl : k = ds.length := by omega
      rw [List.take_length] at own HA
      have S7 := own.sl (fun _ _ => rfl) (by simp; omega)
      have SH := Sh.ext X
      have XA := XW.trans X
      replace dW := block_ext X dW
      clear own Sd Sh X XW
      obtain ⟨wo, rfl⟩ : ∃ wo : World, wo = wr := ⟨_, rfl⟩
      have e7 := S7.len
      rw [List.length_map] at e7
      obtain ⟨a7, c7, rfl, -, -, -⟩ := e7
      go_wp2
      go_loopw [8, 31] (fun v i wr => ∃ k : Nat, k ≤ hs.length ∧ i = .int .i64 k ∧ (∀ d ∈ hs.take k, szOk d.s = true) ∧ OwnR wr wo.heap.size 3 1 encZ v ((hs.take k).map (·.t)) ∧ Ext wo wr) (fun _ i _ => hs.length - (intOf i).toNat)
      case atStart => exact ⟨0, by omega, rfl, fun d hd => by simp at hd, OwnR.nil, Ext.refl _⟩
      case round =>
        obtain ⟨k, hk, rfl, hall, own, X⟩ := hrel
        have HB := Lib.hid hall
        clear hall
        by_cases hlt : k < hs.length
        · obtain ⟨b, o, rfl, q0, q1, q2⟩ := Sl.hrd (SH.ext X) k hlt
          obtain ⟨d, hd⟩ : ∃ d, hs[k] = d := ⟨_, rfl⟩
          rw [hd] at q0 q1 q2
          have HD := Lib.hid hd
          clear hd
          cases hwi : szOk d.s with
          | true =>
            have HW := Lib.hid hwi
            have HT := Lib.hid (List.take_succ_eq_append_getElem hlt)
            clear hwi
            go_wp2_with fail
            refine (szvalid_walk d.s _).mono ?_
            rw [HW.out]
            rintro e w1 ⟨rfl, x1⟩
            have y1 : Ext wr w1 := Ext.trans (by repeat (first | with_reducible exact Ext.refl _ | with_reducible assumption | with_reducible apply Ext.alloc | with_reducible apply Ext.drew | (with_reducible refine Ext.setCell ?_ (by (try simp) <;> omega) _))) x1
            have c1 := x1.cell (alloc_cell wr #[.int .i64 d.t, .int .i64 d.s.lo, .int .i64 d.s.hi] 52 0 _ rfl)
            have own1 := own.ext y1
            have X1 := X.trans y1
            have hsz := X1.size
            clear x1 y1 q0 q1 q2 own
            go_wp2_with (at_builtin; go_must (refine wpList_own1 et_z rfl _ _ rfl own1 rfl d.t rfl rfl rfl (by simp [encZ, Value.oneCell']) (by simp; omega) hsz ?_; intro v' w2 hown' hb' happ _))
            go_roundw
            case rel => exact ⟨k + 1, by omega, by go_num, fun u hu => by
                rw [HT.out, List.mem_append, List.mem_singleton] at hu
                rcases hu with hu | rfl
                · exact HB.out u hu
                · rw [HD.out]; exact HW.out, by rw [HT.out, List.map_append, HD.out]; exact hown', Below.trans X1 hb'⟩
            case measure => simp [intOf]; omega
          | false =>
            have HW := Lib.hid hwi
            clear hwi
            go_wp2_with fail
            refine (szvalid_walk d.s _).mono ?_
            rw [HW.out]
            rintro e w1 ⟨rfl, x1⟩
            have y1 : Ext wr w1 := Ext.trans (by repeat (first | with_reducible exact Ext.refl _ | with_reducible assumption | with_reducible apply Ext.alloc | with_reducible apply Ext.drew | (with_reducible refine Ext.setCell ?_ (by (try simp) <;> omega) _))) x1
            have X1 := (XA.trans X).trans y1
            go_wp2
            go_ret
            exact ⟨by rw [alOk_no2 (by rw [← HD.out]; exact List.getElem_mem _) HW.out] <;> rfl, X1⟩
        · obtain rfl : k = hs.length := by omega
          rw [List.take_length] at own HB
          have S8 := own.sl (fun _ _ => rfl) (by simp; omega)
          replace S7 := S7.ext X
          have XB := XA.trans X
          replace dW := block_ext X dW
          have HE := Lib.hid (alOk_eq (p := p) HA.out HB.out)
          clear own SH X XA
          obtain ⟨wb, rfl⟩ : ∃ wb : World, wb = wr := ⟨_, rfl⟩
          have e8 := S8.len
          rw [List.length_map] at e8
          obtain ⟨a8, c8, rfl, -, -, -⟩ := e8
          obtain ⟨t1, ht1⟩ : ∃ b, tickR (ds.map (·.t)) = b := ⟨_, rfl⟩
          obtain ⟨t2, ht2⟩ : ∃ b, tickR (hs.map (·.t)) = b := ⟨_, rfl⟩
          rw [ht1, ht2] at HE
          have HT1 := Lib.hid ht1; have HT2 := Lib.hid ht2
          have D := Lib.hid dW
          clear ht1 ht2 HA HB dW
          by_cases h1 : ds.length ≤ 100
          · by_cases h2 : hs.length ≤ 100
            · cases t1 with
              | false =>
                go_wp2_with fail
                refine (ticks_walk _ _ _ S7).mono ?_
                rw [HT1.out]
                rintro e w3 ⟨rfl, x3⟩
                go_wp2
                go_ret
                exact ⟨by rw [HE.out]; simp, XB.trans x3⟩
              | true =>
                cases t2 with
                | false =>
                  go_wp2_with fail
                  refine (ticks_walk _ _ _ S7).mono ?_
                  rw [HT1.out]
                  rintro e w3 ⟨rfl, x3⟩
                  go_wp2_with fail
                  refine (ticks_walk _ _ _ (S8.ext x3)).mono ?_
                  rw [HT2.out]
                  rintro e w4 ⟨rfl, x4⟩
                  go_wp2
                  go_ret
                  exact ⟨by rw [HE.out]; simp, (XB.trans x3).trans x4⟩
                | true =>
                  go_wp2_with fail
                  refine (ticks_walk _ _ _ S7).mono ?_
                  rw [HT1.out]
                  rintro e w3 ⟨rfl, x3⟩
                  go_wp2_with fail
                  refine (ticks_walk _ _ _ (S8.ext x3)).mono ?_
                  rw [HT2.out]
                  rintro e w4 ⟨rfl, x4⟩
                  have d0 := block_ext (x3.trans x4) D.out
                  have c0 := block_cell d0 0 _ rfl
                  have c1 := block_cell d0 1 _ rfl
                  have XE := (XB.trans x3).trans x4
                  clear x3 x4 XB D d0 S7 S8
                  have fin : ∀ b, prOk p = b → alOk ds hs p = b := fun b hb => by rw [HE.out, hb]; simp [h1, h2]
                  have FIN := Lib.hid fin
                  clear fin HE
                  by_cases k1 : 0 ≤ p.skip
                  · by_cases k2 : p.skip ≤ 1000000
                    · by_cases k3 : 0 ≤ p.off
                      · go_wp2
                        go_ret
                        exact ⟨by rw [FIN.out (decide (p.off ≤ 1000000)) (by rw [prOk, decide_eq_true k1, decide_eq_true k2, decide_eq_true k3]; rfl)] <;> rfl, XE⟩
                      · go_wp2
                        go_ret
                        exact ⟨by rw [FIN.out false (by simp [prOk]; omega)] <;> rfl, XE⟩
                    · go_wp2
                      go_ret
                      exact ⟨by rw [FIN.out false (by simp [prOk]; omega)] <;> rfl, XE⟩
                  · go_wp2
                    go_ret
                    exact ⟨by rw [FIN.out false (by simp [prOk]; omega)] <;> rfl, XE⟩
            · go_wp2
              go_ret
              exact ⟨by rw [HE.out]; simp; omega, XB⟩
          · go_wp2
            go_ret
            exact ⟨by rw [HE.out]; simp; omega, XB⟩
end Go.Proofs.YthpfalbeieloaaaGreatDoor
