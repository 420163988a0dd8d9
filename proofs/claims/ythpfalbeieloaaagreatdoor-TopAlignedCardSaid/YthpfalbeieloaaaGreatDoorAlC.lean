/-
  Walks: align.prices.
-/
import Derived.Test.YthpfalbeieloaaaGreatDoorAlB
import Derived.Deep.RegionHeld3
set_option maxRecDepth 100000
set_option linter.unusedVariables false
namespace Go.Proofs.YthpfalbeieloaaaGreatDoor
open Go.RowKit Go.Sx Go.Sx.Sz Go.Sx.Al

def prV (pd ph ps pp : Nat) : Value := .func (.func 71) #[] #[.pointer (some ⟨pd, 0, none⟩), .pointer (some ⟨ph, 0, none⟩), .pointer (some ⟨ps, 0, none⟩), .pointer (some ⟨pp, 0, none⟩)]

theorem al_take_rep_set {α : Type} (l : List α) (f : α → S2) (k : Nat) (hk : k < l.length) : ((l.take k).map f ++ List.replicate (l.length - k) zeroS).set k (f l[k]) = (l.take (k + 1)).map f ++ List.replicate (l.length - (k + 1)) zeroS := by
  have h1 : ((l.take k).map f).length = k := by simp; omega
  rw [List.set_append_right _ _ (by omega), h1, Nat.sub_self, show l.length - k = (l.length - (k + 1)) + 1 by omega, List.replicate_succ, List.set_cons_zero, List.take_succ_eq_append_getElem hk, List.map_append, List.append_assoc]
  rfl
theorem setCells_block {w : World} {k g : Nat} {o : Obj} (h : w.heap[k]? = some o) (hk : k ≠ g) (vs : List Value) : ∀ (i : Nat), (w.setCells g i vs).heap[k]? = some o := by
  induction vs generalizing w with
  | nil => intro i; exact h
  | cons v vs ih => intro i; exact ih (block_ne h i v hk) (i + 1)

set_option maxHeartbeats 2000000 in
theorem prices_walk (vd vh : Value) (ds : List Due) (hs : List Hrd) (p : Prc) (hv : AlOk ds hs p) (w : World) (G : Gl 1 w) (Sd : Sl w 7 encD vd ds) (Sh : Sl w 3 encH vh hs) :
    Calls Tryz.prog 49 #[vd, vh, .agg #[.int .i64 p.skip, .int .i64 p.off]] w fun e w' => ∃ pd ph ps pp, e = .returned (prV pd ph ps pp) ∧ PrC pd ph ps pp ds hs p w' ∧ Ext w w' := by
  obtain ⟨a?, cap, rfl, h1, h2, h3⟩ := Sd.len
  obtain ⟨ah, ch, rfl, -, -, -⟩ := Sh.len
  have hdn := hv.dn
  have HV := Lib.hid hv
  clear h1 h2 hv
  go_enter Tryz.func49, Tryz.ntmps49
  go_wp2_with (at_make; go_must (refine wpList_mk (e := 50) (sz := 2) (bytes := 16) (enc := encS) (z := .agg #[.int .i64 0, .int .i64 0]) zeroS Tryz.underlying36 (by kernel_rfl) rfl rfl rfl _ _ rfl ds.length rfl rfl (by omega) (by omega) ?_); intro cs hbk)
  go_loopw [17] (fun i wr => ∃ k : Nat, k ≤ ds.length ∧ i = .int .i64 k ∧ wr.heap[w.heap.size]? = some (.cells #[.slice a? ds.length cap] 39 (0, 0)) ∧ wr.heap[w.heap.size + 1]? = some (.cells #[.slice ah hs.length ch] 40 (0, 0))
    ∧ wr.heap[w.heap.size + 1 + 1]? = some (.cells #[.int .i64 p.skip, .int .i64 p.off] 30 (0, 0)) ∧ wr.heap[w.heap.size + 1 + 1 + 1 + 1]? = some (.cells #[.slice (some ⟨w.heap.size + 1 + 1 + 1, 0, none⟩) ds.length ds.length] 36 (0, 0))
    ∧ Bk wr (w.heap.size + 1 + 1 + 1) 50 encS ((ds.take k).map dsz ++ List.replicate (ds.length - k) zeroS) ∧ Ext w wr) (fun i _ => ds.length - (intOf i).toNat)
  case atStart =>
    simp only [World.size_alloc] at hbk
    refine ⟨0, by omega, rfl, ?_, ?_, ?_, ?_, ?_, (by repeat (first | with_reducible exact Ext.refl _ | with_reducible assumption | with_reducible apply Ext.alloc | with_reducible apply Ext.drew | (with_reducible refine Ext.setCell ?_ (by (try simp) <;> omega) _)))⟩
    · exact block_alloc (block_alloc (block_alloc (block_alloc (block_new w _) _) _) _) _
    · exact block_alloc (block_alloc (block_alloc (block_at (by simp) _) _) _) _
    · exact block_alloc (block_alloc (block_at (by simp) _) _) _
    · exact block_at (by simp) _
    · simpa using hbk.alloc _
  case round =>
    clear hbk
    obtain ⟨k, hk, rfl, D0, D1, D2, D4, B, X⟩ := hrel
    by_cases hlt : k < ds.length
    · obtain ⟨b, o, rfl, q0, q1, q2, q3, q4, q5, q6⟩ := Sl.due (Sd.ext X) k hlt
      obtain ⟨d, hd⟩ : ∃ d, ds[k] = d := ⟨_, rfl⟩
      rw [hd] at q0 q1 q2 q3 q4 q5 q6
      have hwi : within d.x 48 = true := by rw [← hd]; exact HV.out.dx _ (List.getElem_mem _)
      have hof : ofR d.x = (d.x.times 12, 0) := by rw [ofR, if_pos hwi]
      obtain ⟨y, hy⟩ : ∃ y, d.x.times 12 = y := ⟨_, rfl⟩
      rw [hy] at hof
      obtain ⟨s, hs'⟩ : ∃ s, sizeR y = s := ⟨_, rfl⟩
      have HOF := Lib.hid hof; have HS := Lib.hid hs'
      have HD := Lib.hid hd; have HY := Lib.hid hy
      clear hof hs' hd hy hwi
      have HD0 := Lib.hid D0; have HD1 := Lib.hid D1; have HD2 := Lib.hid D2; have HD4 := Lib.hid D4
      clear D0 D1 D2 D4
      go_wp2_with fail
      refine (of_walk d.x _).mono ?_
      rw [HOF.out]
      rintro e w1 ⟨rfl, x1⟩
      have y1 : Ext wr w1 := Ext.trans (by repeat (first | with_reducible exact Ext.refl _ | with_reducible assumption | with_reducible apply Ext.alloc | with_reducible apply Ext.drew | (with_reducible refine Ext.setCell ?_ (by (try simp) <;> omega) _))) x1
      clear x1 q0 q1 q2 q3 q4 q5 q6
      go_wp2
      obtain ⟨N, hN⟩ : ∃ N, w1.heap.size = N := ⟨_, rfl⟩
      have nN : w.heap.size + 1 + 1 + 1 < N := by
        have h1 := y1.size
        have h2 := block_lt HD4.out
        omega
      have nN1 : ¬ N = w.heap.size + 1 + 1 + 1 := by omega
      have nN2 : ¬ w.heap.size + 1 + 1 + 1 = N := by omega
      obtain ⟨W, hW⟩ : ∃ W, w1.alloc (.cells (#[.int .i64 y.a, .int .i64 y.b, .int .i64 y.c, .int .i64 y.d, .int .i64 y.e, .int .i64 y.f] : Array Value) 79) = W := ⟨_, rfl⟩
      have dW := block_at hN (.cells (#[.int .i64 y.a, .int .i64 y.b, .int .i64 y.c, .int .i64 y.d, .int .i64 y.e, .int .i64 y.f] : Array Value) 79)
      have yW := y1.trans (Ext.alloc' w1 (.cells (#[.int .i64 y.a, .int .i64 y.b, .int .i64 y.c, .int .i64 y.d, .int .i64 y.e, .int .i64 y.f] : Array Value) 79))
      rw [hW] at dW yW
      rw [hN, hW]
      clear hN hW y1
      have XW := X.trans yW
      have GW := G.ext XW
      have BW := B.ext yW
      have f0 := block_cell dW 0 (.int .i64 y.a) rfl
      have f1 := block_cell dW 1 (.int .i64 y.b) rfl
      have f2 := block_cell dW 2 (.int .i64 y.c) rfl
      have f3 := block_cell dW 3 (.int .i64 y.d) rfl
      have f4 := block_cell dW 4 (.int .i64 y.e) rfl
      have f5 := block_cell dW 5 (.int .i64 y.f) rfl
      have f6 := yW.cell (block_cell HD4.out 0 _ rfl)
      have i0 : (0 : Int) ≤ (k : Int) := by omega
      have i1 : (k : Int) < (ds.length : Int) := by omega
      have kk := i1
      have hll : ((ds.take k).map dsz ++ List.replicate (ds.length - k) zeroS).length = ds.length := by simp; omega
      have HLL := Lib.hid hll
      have HBW := Lib.hid BW
      clear dW X B hll BW
      go_region_held3 (fun w' => w'.cell? ⟨N, 0, none⟩ = some (.int .i64 y.a) ∧ w'.cell? ⟨N, 1, none⟩ = some (.int .i64 y.b) ∧ w'.cell? ⟨N, 2, none⟩ = some (.int .i64 y.c) ∧ w'.cell? ⟨N, 3, none⟩ = some (.int .i64 y.d) ∧ w'.cell? ⟨N, 4, none⟩ = some (.int .i64 y.e) ∧ w'.cell? ⟨N, 5, none⟩ = some (.int .i64 y.f) ∧ w'.cell? ⟨w.heap.size + 1 + 1 + 1 + 1, 0, none⟩ = some (.slice (some ⟨w.heap.size + 1 + 1 + 1, 0, none⟩) ds.length ds.length)) (go_keep)
        ((go_at_call 17; refine (sof_walk y _ (GW.ext (by repeat (first | with_reducible exact Ext.refl _ | with_reducible assumption | with_reducible apply Ext.alloc | with_reducible apply Ext.drew | (with_reducible refine Ext.setCell ?_ (by (try simp) <;> omega) _))))).mono ?_; rw [HS.out]; rintro e W2 ⟨rfl, hx⟩; have hW2 : Ext W W2 := Ext.trans (by repeat (first | with_reducible exact Ext.refl _ | with_reducible assumption | with_reducible apply Ext.alloc | with_reducible apply Ext.drew | (with_reducible refine Ext.setCell ?_ (by (try simp) <;> omega) _))) hx; have k0 := hW2.cell f0; have k1 := hW2.cell f1; have k2 := hW2.cell f2; have k3 := hW2.cell f3; have k4 := hW2.cell f4; have k5 := hW2.cell f5; have k6 := hW2.cell f6; clear hx; obtain ⟨z0, e0⟩ := (HBW.out.ext hW2).ex0 (sz := 2) (fun _ _ => rfl) k (by rw [HLL.out]; exact hlt) (by omega); obtain ⟨z1, e1⟩ := (HBW.out.ext hW2).ex (sz := 2) (fun _ _ => rfl) k 1 (by rw [HLL.out]; exact hlt) (by omega); have g0 := (HBW.out.ext hW2).free (k * 2); have g1 := (HBW.out.ext hW2).free (k * 2 + 1)))
      all_goals
        have hll := HLL.out
        have B2 := HBW.out.ext hW2
        have hput := B2.put (sz := 2) (fun _ _ => rfl) s.1 rfl k (by omega)
        have hsd : dsz ds[k] = s.1 := by rw [HD.out, dsz, HOF.out, HS.out]
        rw [← hsd, al_take_rep_set ds dsz k hlt, hsd] at hput
        have HP := Lib.hid hput
        have X2 := setCells_ext (XW.trans hW2) (g := w.heap.size + 1 + 1 + 1) (by omega) (encS s.1) (k * 2)
        have ZZ := yW.trans hW2
        have D0 := Lib.hid (setCells_block (block_ext ZZ HD0.out) (g := w.heap.size + 1 + 1 + 1) (by omega) (encS s.1) (k * 2))
        have D1 := Lib.hid (setCells_block (block_ext ZZ HD1.out) (g := w.heap.size + 1 + 1 + 1) (by omega) (encS s.1) (k * 2))
        have D2 := Lib.hid (setCells_block (block_ext ZZ HD2.out) (g := w.heap.size + 1 + 1 + 1) (by omega) (encS s.1) (k * 2))
        have D4 := Lib.hid (setCells_block (block_ext ZZ HD4.out) (g := w.heap.size + 1 + 1 + 1) (by omega) (encS s.1) (k * 2))
        clear hput hll hsd B2 GW XW yW f0 f1 f2 f3 f4 f5 f6 hW2 ZZ HD0 HD1 HD2 HD4
        (try go_wp2)
        go_roundw
        case rel => exact ⟨k + 1, by omega, by go_num, D0.out, D1.out, D2.out, D4.out, HP.out, X2⟩
        case measure => simp [intOf]; omega
    · obtain rfl : k = ds.length := by omega
      rw [List.take_length, Nat.sub_self, List.replicate_zero, List.append_nil] at B
      have S2 := B.sl (sz := 2) (n := ds.length) (fun _ _ => rfl) (by simp) (by simp; omega)
      have c0 := block_cell D0 0 _ rfl
      have c1 := block_cell D1 0 _ rfl
      have c2 := block_cell D2 1 _ rfl
      have c4 := block_cell D4 0 _ rfl
      have XX := X
      have SD := Sd.ext X
      have SH := Sh.ext X
      clear D0 D1 D2 D4 B X Sd Sh G
      go_wp2
      go_ret
      exact ⟨_, _, _, _, rfl, ⟨⟨_, c0, SD⟩, ⟨_, c1, SH⟩, ⟨_, c4, S2⟩, c2⟩, XX⟩
end Go.Proofs.YthpfalbeieloaaaGreatDoor
