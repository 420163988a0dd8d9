/-
  Walks: partial.roots, Valid.
-/
import Derived.Test.YtkckingkocacjaaDoorPaA
import Derived.Test.YtkckingkocacjaaDoorAuC
import Derived.Test.YtkckingkocacjaaDoorLibB
set_option linter.unusedVariables false
namespace Go.Proofs.YtkckingkocacjaaDoor
open Go.RowKit Go.Sx Go.Sx.Sz

def encR (r : Row) : List Value := [.int .i64 r.h, .int .i64 r.lo, .int .i64 r.hi]

theorem Sl.row {w : World} {a? : Option Addr} {n cap : Nat} {xs : List Row} (h : Sl w 3 encR (.slice a? n cap) xs) (k : Nat) (hk : k < xs.length) :
    ∃ b o, a? = some ⟨b, o, none⟩ ∧ w.cell? ⟨b, o + k * 3, none⟩ = some (.int .i64 xs[k].h) ∧ w.cell? ⟨b, o + k * 3 + 1, none⟩ = some (.int .i64 xs[k].lo) ∧ w.cell? ⟨b, o + k * 3 + 2, none⟩ = some (.int .i64 xs[k].hi) := by
  obtain ⟨b, o, e, hc⟩ := h.at (by omega) k hk
  exact ⟨b, o, e, hc 0 (by omega), hc 1 (by omega), hc 2 (by omega)⟩
theorem Sl.size {w : World} {a? : Option Addr} {n cap : Nat} {xs : List S2} (h : Sl w 2 encS (.slice a? n cap) xs) (k : Nat) (hk : k < xs.length) :
    ∃ b o, a? = some ⟨b, o, none⟩ ∧ w.cell? ⟨b, o + k * 2, none⟩ = some (.int .i64 xs[k].lo) ∧ w.cell? ⟨b, o + k * 2 + 1, none⟩ = some (.int .i64 xs[k].hi) := by
  obtain ⟨b, o, e, hc⟩ := h.at (by omega) k hk
  exact ⟨b, o, e, hc 0 (by omega), hc 1 (by omega)⟩

theorem take_rep_set {α : Type} (l : List α) (f : α → S2) (k : Nat) (hk : k < l.length) : ((l.take k).map f ++ List.replicate (l.length - k) zeroS).set k (f l[k]) = (l.take (k + 1)).map f ++ List.replicate (l.length - (k + 1)) zeroS := by
  have h1 : ((l.take k).map f).length = k := by simp; omega
  rw [List.set_append_right _ _ (by omega), h1, Nat.sub_self, show l.length - k = (l.length - (k + 1)) + 1 by omega, List.replicate_succ, List.set_cons_zero, List.take_succ_eq_append_getElem hk, List.map_append]
  simp

set_option maxHeartbeats 2000000 in
theorem roots_walk (v : Value) (l : List Row) (w : World) (G : Gv 0 1 w) (S : Sl w 3 encR v l) :
    Calls Tryd.prog 21 #[v] w fun e w' => ∃ v', e = .returned (.tuple #[v', .int .i64 (rootsE l)]) ∧ Sl w' 2 encS v' (rootsL l) ∧ Ext w w' := by
  obtain ⟨a?, cap, rfl, h1, h2, h3⟩ := S.len
  clear h1 h2
  by_cases hl : l.length ≤ 16
  · go_enter Tryd.func21, Tryd.ntmps21
    go_wp2_with (at_make; go_must (refine wpList_mk (e := 47) (sz := 2) (bytes := 16) (enc := encS) (z := .agg #[.int .i64 0, .int .i64 0]) zeroS Tryd.underlying40 (by kernel_rfl) rfl rfl rfl _ _ rfl l.length rfl rfl (by omega) (by omega) ?_); intro cs hbk)
    go_loopw [17] (fun i wr => ∃ k : Nat, k ≤ l.length ∧ i = .int .i64 k ∧ (l.take k).all rowOk = true ∧ Bk wr w.heap.size 47 encS ((l.take k).map rootS ++ List.replicate (l.length - k) zeroS) ∧ Ext w wr) (fun i _ => l.length - (intOf i).toNat)
    case atStart => exact ⟨0, by omega, rfl, rfl, by simpa using hbk, (by repeat (first | with_reducible exact Ext.refl _ | with_reducible assumption | with_reducible apply Ext.alloc | with_reducible apply Ext.drew | (with_reducible refine Ext.setCell ?_ (by (try simp) <;> omega) _)))⟩
    case round =>
      clear hbk
      obtain ⟨k, hk, rfl, hall, B, X⟩ := hrel
      have HA := Lib.hid hall; clear hall
      by_cases hlt : k < l.length
      · obtain ⟨b, o, rfl, q0, q1, q2⟩ := Sl.row (S.ext X) k hlt
        obtain ⟨r, hr⟩ : ∃ r, l[k] = r := ⟨_, rfl⟩
        rw [hr] at q0 q1 q2
        have hts := take_rep_set l rootS k hlt
        have hta : (l.take (k + 1)).all rowOk = ((l.take k).all rowOk && rowOk r) := by rw [List.take_succ_eq_append_getElem hlt, hr]; simp
        rw [hr] at hts
        have HR := Lib.hid hr; have HT := Lib.hid hts; have HTA := Lib.hid hta
        clear hr hts hta
        cases hro : rowOk r with
        | true =>
          have HQ : Hid (rootR r = (rootS r, 0)) := Lib.hid (by rw [rootR, if_pos hro])
          have HO := Lib.hid hro; clear hro
          go_wp2_with fail
          refine (root_walk r _ (G.ext (by repeat (first | with_reducible exact Ext.refl _ | with_reducible assumption | with_reducible apply Ext.alloc | with_reducible apply Ext.drew | (with_reducible refine Ext.setCell ?_ (by (try simp) <;> omega) _))))).mono ?_
          rw [HQ.out]
          rintro e w1 ⟨rfl, x1⟩
          have X1 : Ext w w1 := Ext.trans (by repeat (first | with_reducible exact Ext.refl _ | with_reducible assumption | with_reducible apply Ext.alloc | with_reducible apply Ext.drew | (with_reducible refine Ext.setCell ?_ (by (try simp) <;> omega) _))) x1
          have B1 := B.ext (Ext.trans (Ext.alloc' _ _) x1)
          have hc := B1
          have hll : ((l.take k).map rootS ++ List.replicate (l.length - k) zeroS).length = l.length := by simp; omega
          obtain ⟨y0, e0⟩ := hc.ex0 (sz := 2) (fun _ _ => rfl) k (by omega) (by omega)
          obtain ⟨y1, e1⟩ := hc.ex (sz := 2) (fun _ _ => rfl) k 1 (by omega) (by omega)
          have f0 := hc.free (k * 2)
          have f1 := hc.free (k * 2 + 1)
          have hput := hc.put (sz := 2) (fun _ _ => rfl) (rootS r) rfl k (by omega)
          rw [HT.out] at hput
          have HP := Lib.hid hput
          have X2 := setCells_ext X1 (g := w.heap.size) (Nat.le_refl _) (encS (rootS r)) (k * 2)
          have hlt1 := B1.lt
          clear hput hll hc B1 B
          go_wp2
          go_roundw
          case rel => exact ⟨k + 1, by omega, by go_num, by rw [HTA.out, HA.out, HO.out]; rfl, HP.out.alloc _, X2.alloc _⟩
          case measure => simp [intOf]; omega
        | false =>
          have HQ : Hid (rootR r = (zeroS, 1)) := Lib.hid (rootR_no hro)
          have hro' : rowsOk l = false := by
            cases h : rowsOk l with
            | false => rfl
            | true => rw [← HR.out, (rowsOk_iff.1 h).2 _ (List.getElem_mem _)] at hro; cases hro
          have HE := Lib.hid hro'
          clear hro hro'
          go_wp2_with fail
          refine (root_walk r _ (G.ext (by repeat (first | with_reducible exact Ext.refl _ | with_reducible assumption | with_reducible apply Ext.alloc | with_reducible apply Ext.drew | (with_reducible refine Ext.setCell ?_ (by (try simp) <;> omega) _))))).mono ?_
          rw [HQ.out]
          rintro e w1 ⟨rfl, x1⟩
          have X1 : Ext w w1 := Ext.trans (by repeat (first | with_reducible exact Ext.refl _ | with_reducible assumption | with_reducible apply Ext.alloc | with_reducible apply Ext.drew | (with_reducible refine Ext.setCell ?_ (by (try simp) <;> omega) _))) x1
          go_wp2
          go_ret2
          exact ⟨_, by rw [rootsE, HE.out]; rfl, by rw [rootsL, HE.out]; exact Sl.nil _ _ _, (by repeat (first | with_reducible exact Ext.refl _ | with_reducible assumption | with_reducible apply Ext.alloc | with_reducible apply Ext.drew | (with_reducible refine Ext.setCell ?_ (by (try simp) <;> omega) _)))⟩
      · obtain rfl : k = l.length := by omega
        have hok : rowsOk l = true := by
          have := HA.out
          rw [List.take_length] at this
          rw [rowsOk, this]; simpa using hl
        have HOK := Lib.hid hok
        clear hok
        rw [List.take_length, Nat.sub_self, List.replicate_zero, List.append_nil] at B
        have hs := B.sl (sz := 2) (fun _ _ => rfl) (n := l.length) (by simp) (by simp; omega)
        clear B
        go_wp2
        go_ret2
        exact ⟨_, by rw [rootsE, HOK.out]; rfl, by rw [rootsL_ok HOK.out]; exact hs, (by repeat (first | with_reducible exact Ext.refl _ | with_reducible assumption | with_reducible apply Ext.alloc | with_reducible apply Ext.drew | (with_reducible refine Ext.setCell ?_ (by (try simp) <;> omega) _)))⟩
  · go_enter Tryd.func21, Tryd.ntmps21
    go_wp2
    go_ret2
    have he : rowsOk l = false := by simp [rowsOk]; omega
    exact ⟨_, by rw [rootsE, he]; rfl, by rw [rootsL, he]; exact Sl.nil _ _ _, (by repeat (first | with_reducible exact Ext.refl _ | with_reducible assumption | with_reducible apply Ext.alloc | with_reducible apply Ext.drew | (with_reducible refine Ext.setCell ?_ (by (try simp) <;> omega) _)))⟩
end Go.Proofs.YtkckingkocacjaaDoor
