/-
  Walks of chain: put, opens.
-/
import Derived.Test.YtgfaiihekibcbaaGreatDoorGpA
set_option maxRecDepth 100000
set_option linter.unusedVariables false
namespace Go.Sx
open Go.RowKit
theorem Bk.there {α : Type} {w : World} {g : Nat} {e : TypeId} {sz : Nat} {enc : α → List Value} {xs : List α} (h : Bk w g e enc xs) (hl : ∀ x ∈ xs, (enc x).length = sz) {k : Nat} (hk : k < xs.length) (j m : Nat) (hj : j + m ≤ sz) : w.there g (k * sz + j) m := fun i hi =>
  ⟨by rw [Nat.add_assoc, h.cell hl k (j + i) hk (by omega)]; rfl, h.free _⟩
theorem kb_setCells {a : World} {g : Nat} (vs : List Value) : ∀ (w : World) (o : Nat), Kb (some g) a w → Kb (some g) a (w.setCells g o vs) := by
  induction vs with
  | nil => intro w o h; exact h
  | cons v vs ih =>
    intro w o h
    refine ih _ (o + 1) ⟨h.os, h.tape, h.output, ?_, fun b hb hg => ?_⟩
    · have := h.size; simpa using this
    · exact (Below.heap_setCell w ⟨g, o, none⟩ v b (fun e => hg (by rw [e]))).trans (h.kept b hb hg)
end Go.Sx
namespace Go.Proofs.YtgfaiihekibcbaaGreatDoor
open Go.RowKit Go.Sx Go.Sx.Sz Go.Sx.Sc Go.Sx.Po Go.Sx.Ch

theorem rts_len (ls : List (List V6)) : ∀ x ∈ ls.map rtOf, (encRt x).length = 13 := fun _ _ => rfl
theorem rt_at {ls : List (List V6)} {n : Nat} (hn : n < ls.length) {l : List V6} (hl : ls[n] = l) : (ls.map rtOf)[n]'(by simpa using hn) = rtOf l := by rw [List.getElem_map, hl]
/-- The cells of what is kept at a note. -/
theorem Bk.rt {w : World} {ob n : Nat} {ls : List (List V6)} (H : Bk w ob 84 encRt (ls.map rtOf)) (hn : n < ls.length) {l : List V6} (hl : ls[n] = l) {o : Nat} (ho : n * 13 = o) :
    w.cell? ⟨ob, o, none⟩ = some (.int .i64 l.length) ∧ (w.cell? ⟨ob, o + 1, none⟩ = some (.int .i64 (rtOf l).x.a) ∧ w.cell? ⟨ob, o + 2, none⟩ = some (.int .i64 (rtOf l).x.b) ∧ w.cell? ⟨ob, o + 3, none⟩ = some (.int .i64 (rtOf l).x.c) ∧ w.cell? ⟨ob, o + 4, none⟩ = some (.int .i64 (rtOf l).x.d) ∧ w.cell? ⟨ob, o + 5, none⟩ = some (.int .i64 (rtOf l).x.e) ∧ w.cell? ⟨ob, o + 6, none⟩ = some (.int .i64 (rtOf l).x.f)) ∧
      (w.cell? ⟨ob, o + 7, none⟩ = some (.int .i64 (rtOf l).y.a) ∧ w.cell? ⟨ob, o + 8, none⟩ = some (.int .i64 (rtOf l).y.b) ∧ w.cell? ⟨ob, o + 9, none⟩ = some (.int .i64 (rtOf l).y.c) ∧ w.cell? ⟨ob, o + 10, none⟩ = some (.int .i64 (rtOf l).y.d) ∧ w.cell? ⟨ob, o + 11, none⟩ = some (.int .i64 (rtOf l).y.e) ∧ w.cell? ⟨ob, o + 12, none⟩ = some (.int .i64 (rtOf l).y.f)) := by
  subst ho
  have h : ∀ j, j < 13 → w.cell? ⟨ob, n * 13 + j, none⟩ = some ((encRt (rtOf l)).getD j undef) := fun j hj => by
    have := Bk.cell (sz := 13) H (rts_len ls) n j (by simpa using hn) hj
    rwa [rt_at hn hl] at this
  exact ⟨h 0 (by omega), ⟨h 1 (by omega), h 2 (by omega), h 3 (by omega), h 4 (by omega), h 5 (by omega), h 6 (by omega)⟩, h 7 (by omega), h 8 (by omega), h 9 (by omega), h 10 (by omega), h 11 (by omega), h 12 (by omega)⟩
/-- One value more, written. -/
theorem Bk.putRt {w w9 : World} {ob n : Nat} {ls : List (List V6)} (H : Bk w ob 84 encRt (ls.map rtOf)) (hn : n < ls.length) {l : List V6} (hl : ls[n] = l) (hlen : l.length < 2) (v : V6) (x : Ext w w9) :
    Bk ((w9.setCells ob (n * 13 + (1 + l.length * 6)) v.list).setCells ob (n * 13) [.int .i64 ((l.length : Int) + 1)]) ob 84 encRt ((ls.set n (l ++ [v])).map rtOf) := by
  have hn' : n < (ls.map rtOf).length := by simpa using hn
  have H9 := H.ext x
  have hat := rt_at hn hl
  match l, hlen, hl, hat with
  | [], _, hl, hat =>
    have h1 := Bk.part (sz := 13) H9 (rts_len ls) hn' (⟨0, v, V6.zero⟩ : Rt) (pre := [.int .i64 0]) (vs0 := V6.zero.list) (vs := v.list) (suf := V6.zero.list) (by rw [hat]; rfl) rfl rfl
    have h2 := Bk.part (sz := 13) h1 (fun _ _ => rfl) (k := n) (by rw [List.length_set]; exact hn') (rtOf [v]) (pre := []) (vs0 := [.int .i64 0]) (vs := [.int .i64 1]) (suf := v.list ++ V6.zero.list) (by rw [List.getElem_set_self]; rfl) rfl rfl
    rw [List.set_set] at h2
    rw [List.map_set]
    exact h2
  | [a], _, hl, hat =>
    have h1 := Bk.part (sz := 13) H9 (rts_len ls) hn' (⟨1, a, v⟩ : Rt) (pre := .int .i64 1 :: a.list) (vs0 := V6.zero.list) (vs := v.list) (suf := []) (by rw [hat]; rfl) rfl rfl
    have h2 := Bk.part (sz := 13) h1 (fun _ _ => rfl) (k := n) (by rw [List.length_set]; exact hn') (rtOf [a, v]) (pre := []) (vs0 := [.int .i64 1]) (vs := [.int .i64 2]) (suf := a.list ++ v.list) (by rw [List.getElem_set_self]; rfl) rfl rfl
    rw [List.set_set] at h2
    rw [List.map_set]
    exact h2

set_option maxHeartbeats 4000000 in
theorem put_walk (ob n : Nat) (ls : List (List V6)) (hn : n < ls.length) (v : V6) (w : World) (H : Bk w ob 84 encRt (ls.map rtOf)) (h2 : (ls[n]).length ≤ 2) :
    Calls Tryz.prog 39 #[.pointer (some ⟨ob, n * 13, none⟩), .agg #[.int .i64 v.a, .int .i64 v.b, .int .i64 v.c, .int .i64 v.d, .int .i64 v.e, .int .i64 v.f]] w fun e w' => e = .returned (.tuple #[]) ∧ Bk w' ob 84 encRt ((ls.set n (putR ls[n] v)).map rtOf) ∧ Kb (some ob) w w' := by
  obtain ⟨l, hl⟩ : ∃ l, ls[n] = l := ⟨_, rfl⟩
  rw [hl] at h2 ⊢
  have hlt := H.lt
  have X0 : Ext w (w.alloc (.cells (#[.int .i64 v.a, .int .i64 v.b, .int .i64 v.c, .int .i64 v.d, .int .i64 v.e, .int .i64 v.f] : Array Value) 32)) := (by repeat (first | with_reducible exact Ext.refl _ | with_reducible assumption | with_reducible apply Ext.alloc | with_reducible apply Ext.drew | (with_reducible refine Ext.setCell ?_ (by (try simp) <;> omega) _)))
  have b0_0 := block_new w (.cells (#[.int .i64 v.a, .int .i64 v.b, .int .i64 v.c, .int .i64 v.d, .int .i64 v.e, .int .i64 v.f] : Array Value) 32)
  obtain ⟨W0, hW0⟩ : ∃ W, (w.alloc (.cells (#[.int .i64 v.a, .int .i64 v.b, .int .i64 v.c, .int .i64 v.d, .int .i64 v.e, .int .i64 v.f] : Array Value) 32)) = W := ⟨_, rfl⟩
  obtain ⟨B0, hB0⟩ : ∃ B, w.heap.size = B := ⟨_, rfl⟩
  rw [hW0] at X0 b0_0
  rw [hB0] at b0_0
  have HZ0 : Hid (w.heap.size ≤ B0) := Lib.hid (by omega)
  have HW0 := Lib.hid hW0; have HB0 := Lib.hid hB0
  clear hW0 hB0
  have H0 := H.ext X0
  obtain ⟨o, ho⟩ : ∃ o, n * 13 = o := ⟨_, rfl⟩
  have KB0 := Lib.hid (X0.kb (some ob))
  obtain ⟨d0, ⟨d1, d2, d3, d4, d5, d6⟩, -⟩ := Bk.rt H0 hn hl ho
  have e0 := block_cell b0_0 0 _ rfl; have e1 := block_cell b0_0 1 _ rfl; have e2 := block_cell b0_0 2 _ rfl; have e3 := block_cell b0_0 3 _ rfl; have e4 := block_cell b0_0 4 _ rfl; have e5 := block_cell b0_0 5 _ rfl
  have hB : B0 ≠ ob := by have := HB0.out; omega
  have NOP : putR l v = l → Bk W0 ob 84 encRt ((ls.set n (putR l v)).map rtOf) := fun e => by
    rw [e, ← hl, List.set_getElem_self]; exact H0
  have YES : l.length < 2 → putR l v = l ++ [v] → ∀ w9, Ext W0 w9 → Bk ((w9.setCells ob (o + (1 + l.length * 6)) v.list).setCells ob o [.int .i64 ((l.length : Int) + 1)]) ob 84 encRt ((ls.set n (putR l v)).map rtOf) := fun h e w9 x => by
    rw [e, ← ho]; exact Bk.putRt H0 hn hl h v x
  have TH : ∀ j, j + 6 ≤ 13 → ∀ w9, Ext W0 w9 → w9.there ob (o + j) 6 := fun j hj w9 x => by
    rw [← ho]; exact Bk.there (H0.ext x) (rts_len ls) (by simpa using hn) j 6 hj
  have FR : ∀ w9, Ext W0 w9 → w9.frozen? ⟨ob, o, none⟩ = false := fun w9 x => (H0.ext x).free o
  have HN := Lib.hid NOP; have HY := Lib.hid YES; have HT := Lib.hid TH; have HF := Lib.hid FR
  rw [ho]
  clear NOP YES TH FR H H0 b0_0 ho hl hlt
  match l, h2 with
  | [a, b], _ =>
    have hp : putR [a, b] v = [a, b] := rfl
    have HNN := Lib.hid (HN.out hp)
    clear hp HN HY HT HF
    replace d0 : W0.cell? ⟨ob, o, none⟩ = some (.int .i64 2) := d0
    go_enter Tryz.func39, Tryz.ntmps39
    go_upto_region 1 with fail
    rw [HW0.out, HB0.out]
    clear HW0 HB0 d1 d2 d3 d4 d5 d6 e0 e1 e2 e3 e4 e5
    go_quiet (fail)
    go_wp2
    go_end0
    exact ⟨rfl, HNN.out.ext (Ext.drawn _ _), KB0.out.trans (Kb.drawn _ _ _)⟩
  | [a], _ =>
    by_cases hav : a = v
    · have hp : putR [a] v = [a] := by unfold putR; rw [if_neg (by simp [hav])]
      have HNN := Lib.hid (HN.out hp)
      have VQ : ∀ w', (Op.equalIn 10000 32 (.agg #[.int .i64 a.a, .int .i64 a.b, .int .i64 a.c, .int .i64 a.d, .int .i64 a.e, .int .i64 a.f]) (.agg #[.int .i64 v.a, .int .i64 v.b, .int .i64 v.c, .int .i64 v.d, .int .i64 v.e, .int .i64 v.f])).run Tryz.prog w' = .ok true w' := fun w' => by
        have := run_eq_v6 (P := Tryz.prog) Tryz.underlying32 Tryz.underlying3 (by kernel_rfl) a v 9998 w'
        rwa [decide_eq_true hav] at this
      clear hp HN HY HT HF
      replace d0 : W0.cell? ⟨ob, o, none⟩ = some (.int .i64 1) := d0
      replace d1 : W0.cell? ⟨ob, o + 1, none⟩ = some (.int .i64 a.a) := d1
      replace d2 : W0.cell? ⟨ob, o + 2, none⟩ = some (.int .i64 a.b) := d2
      replace d3 : W0.cell? ⟨ob, o + 3, none⟩ = some (.int .i64 a.c) := d3
      replace d4 : W0.cell? ⟨ob, o + 4, none⟩ = some (.int .i64 a.d) := d4
      replace d5 : W0.cell? ⟨ob, o + 5, none⟩ = some (.int .i64 a.e) := d5
      replace d6 : W0.cell? ⟨ob, o + 6, none⟩ = some (.int .i64 a.f) := d6
      clear hav
      go_enter Tryz.func39, Tryz.ntmps39
      go_upto_region 1 with fail
      rw [HW0.out, HB0.out]
      clear HW0 HB0
      go_quiet (fail)
      go_wp2
      go_end0
      exact ⟨rfl, HNN.out.ext (Ext.drawn _ _), KB0.out.trans (Kb.drawn _ _ _)⟩
    · have hp : putR [a] v = [a] ++ [v] := by unfold putR; rw [if_pos ⟨by simp, .inr (by simpa using hav)⟩]
      have HYY := Lib.hid (HY.out (by simp) hp)
      have VQ : ∀ w', (Op.equalIn 10000 32 (.agg #[.int .i64 a.a, .int .i64 a.b, .int .i64 a.c, .int .i64 a.d, .int .i64 a.e, .int .i64 a.f]) (.agg #[.int .i64 v.a, .int .i64 v.b, .int .i64 v.c, .int .i64 v.d, .int .i64 v.e, .int .i64 v.f])).run Tryz.prog w' = .ok false w' := fun w' => by
        have := run_eq_v6 (P := Tryz.prog) Tryz.underlying32 Tryz.underlying3 (by kernel_rfl) a v 9998 w'
        rwa [decide_eq_false hav] at this
      have HTT := Lib.hid (HT.out 7 (by omega))
      clear hp HN HY HT
      replace d0 : W0.cell? ⟨ob, o, none⟩ = some (.int .i64 1) := d0
      replace d1 : W0.cell? ⟨ob, o + 1, none⟩ = some (.int .i64 a.a) := d1
      replace d2 : W0.cell? ⟨ob, o + 2, none⟩ = some (.int .i64 a.b) := d2
      replace d3 : W0.cell? ⟨ob, o + 3, none⟩ = some (.int .i64 a.c) := d3
      replace d4 : W0.cell? ⟨ob, o + 4, none⟩ = some (.int .i64 a.d) := d4
      replace d5 : W0.cell? ⟨ob, o + 5, none⟩ = some (.int .i64 a.e) := d5
      replace d6 : W0.cell? ⟨ob, o + 6, none⟩ = some (.int .i64 a.f) := d6
      clear hav
      have q0 := ext_cells d0; have f0 := ext_cells e0; have f1 := ext_cells e1; have f2 := ext_cells e2; have f3 := ext_cells e3; have f4 := ext_cells e4; have f5 := ext_cells e5
      go_enter Tryz.func39, Tryz.ntmps39
      go_upto_region 1 with fail
      rw [HW0.out, HB0.out]
      clear HW0 HB0
      go_quiet (fail)
      clear VQ d0 d1 d2 d3 d4 d5 d6 e0 e1 e2 e3 e4 e5
      go_upto_region 2 with fail
      refine wp_region_ord [(0,true), (1,true), (2,true), (3,true), (4,true), (5,true), (6,true), (7,true), (8,true)] 9 Ext (Ext W0) wide (by kernel_rfl) (stable_ext _) (Ext.drawn _ _) ?_
      iterate 9 (first | (apply wpOrd_no rfl; rfl; (simp only [List.getElem_toArray, List.getElem_cons_succ, List.getElem_cons_zero, Act.put, List.setIfInBounds_toArray, List.set_cons_succ, List.set_cons_zero]; rfl)) | (apply wpOrd_yes rfl; rfl; (intro w' hw'; unfold opR; go_simp; exact ⟨Ext.refl _, rfl⟩); (simp only [List.getElem_toArray, List.getElem_cons_succ, List.getElem_cons_zero, Act.put, List.setIfInBounds_toArray, List.set_cons_succ, List.set_cons_zero]; rfl)))
      refine wpOrd_nil (l := [_]) rfl ?_
      intro w9 x9
      have TT := HTT.out w9 x9
      obtain ⟨W5, hW5⟩ : ∃ W5, w9.setCells ob (o + 7) v.list = W5 := ⟨_, rfl⟩
      have FIN : Hid (Bk (W5.setCell ⟨ob, o, none⟩ (.int .i64 2)) ob 84 encRt ((ls.set n (putR [a] v)).map rtOf)) := Lib.hid (by rw [← hW5]; exact HYY.out w9 x9)
      have KK : Hid (Kb (some ob) w (W5.setCell ⟨ob, o, none⟩ (.int .i64 2))) := Lib.hid (by rw [← hW5]; exact kb_setCells [.int .i64 2] _ o (kb_setCells v.list w9 (o + 7) (KB0.out.trans (x9.kb _))))
      have c0 : W5.cell? ⟨ob, o, none⟩ = some (.int .i64 1) := by rw [← hW5, World.cell?_setCells_out ob _ _ _ _ (fun _ _ => .inl (by show o < _; omega))]; exact q0 _ x9
      have fr : W5.frozen? ⟨ob, o, none⟩ = false := by rw [← hW5, World.frozen?_setCells]; exact HF.out _ x9
      have hW6 : w9.setCells ob (o + 7) (#[Value.int .i64 v.a, .int .i64 v.b, .int .i64 v.c, .int .i64 v.d, .int .i64 v.e, .int .i64 v.f] : Array Value).toList = W5 := hW5
      clear q0 f0 f1 f2 f3 f4 f5 HYY HTT x9 HF
      refine wpList_store_mid rfl _ _ _ rfl ob (o + 7) #[.int .i64 v.a, .int .i64 v.b, .int .i64 v.c, .int .i64 v.d, .int .i64 v.e, .int .i64 v.f] ?h1 ?h2 TT ?h3 ?h4 ?h5
      case h1 => rfl
      case h2 => rfl
      case h3 => kernel_rfl
      case h4 => simp [Value.oneCell']
      rw [hW6]
      clear hW5 hW6 TT
      go_wp2
      go_end0
      exact ⟨rfl, FIN.out, KK.out⟩
  | [], _ =>
    have hp : putR [] v = [] ++ [v] := rfl
    have HYY := Lib.hid (HY.out (by simp) hp)
    have HTT := Lib.hid (HT.out 1 (by omega))
    clear hp HN HY HT
    replace d0 : W0.cell? ⟨ob, o, none⟩ = some (.int .i64 0) := d0
    clear d1 d2 d3 d4 d5 d6
    have q0 := ext_cells d0; have f0 := ext_cells e0; have f1 := ext_cells e1; have f2 := ext_cells e2; have f3 := ext_cells e3; have f4 := ext_cells e4; have f5 := ext_cells e5
    go_enter Tryz.func39, Tryz.ntmps39
    go_upto_region 1 with fail
    rw [HW0.out, HB0.out]
    clear HW0 HB0
    go_quiet (fail)
    clear d0 e0 e1 e2 e3 e4 e5
    go_upto_region 2 with fail
    refine wp_region_ord [(0,true), (1,true), (2,true), (3,true), (4,true), (5,true), (6,true), (7,true), (8,true)] 9 Ext (Ext W0) wide (by kernel_rfl) (stable_ext _) (Ext.drawn _ _) ?_
    iterate 9 (first | (apply wpOrd_no rfl; rfl; (simp only [List.getElem_toArray, List.getElem_cons_succ, List.getElem_cons_zero, Act.put, List.setIfInBounds_toArray, List.set_cons_succ, List.set_cons_zero]; rfl)) | (apply wpOrd_yes rfl; rfl; (intro w' hw'; unfold opR; go_simp; exact ⟨Ext.refl _, rfl⟩); (simp only [List.getElem_toArray, List.getElem_cons_succ, List.getElem_cons_zero, Act.put, List.setIfInBounds_toArray, List.set_cons_succ, List.set_cons_zero]; rfl)))
    refine wpOrd_nil (l := [_]) rfl ?_
    intro w9 x9
    have TT := HTT.out w9 x9
    obtain ⟨W5, hW5⟩ : ∃ W5, w9.setCells ob (o + 1) v.list = W5 := ⟨_, rfl⟩
    have FIN : Hid (Bk (W5.setCell ⟨ob, o, none⟩ (.int .i64 1)) ob 84 encRt ((ls.set n (putR [] v)).map rtOf)) := Lib.hid (by rw [← hW5]; exact HYY.out w9 x9)
    have KK : Hid (Kb (some ob) w (W5.setCell ⟨ob, o, none⟩ (.int .i64 1))) := Lib.hid (by rw [← hW5]; exact kb_setCells [.int .i64 1] _ o (kb_setCells v.list w9 (o + 1) (KB0.out.trans (x9.kb _))))
    have c0 : W5.cell? ⟨ob, o, none⟩ = some (.int .i64 0) := by rw [← hW5, World.cell?_setCells_out ob _ _ _ _ (fun _ _ => .inl (by show o < _; omega))]; exact q0 _ x9
    have fr : W5.frozen? ⟨ob, o, none⟩ = false := by rw [← hW5, World.frozen?_setCells]; exact HF.out _ x9
    have hW6 : w9.setCells ob (o + 1) (#[Value.int .i64 v.a, .int .i64 v.b, .int .i64 v.c, .int .i64 v.d, .int .i64 v.e, .int .i64 v.f] : Array Value).toList = W5 := hW5
    clear q0 f0 f1 f2 f3 f4 f5 HYY HTT x9 HF
    refine wpList_store_mid rfl _ _ _ rfl ob (o + 1) #[.int .i64 v.a, .int .i64 v.b, .int .i64 v.c, .int .i64 v.d, .int .i64 v.e, .int .i64 v.f] ?g1 ?g2 TT ?g3 ?g4 ?g5
    case g1 => rfl
    case g2 => rfl
    case g3 => kernel_rfl
    case g4 => simp [Value.oneCell']
    rw [hW6]
    clear hW5 hW6 TT
    go_wp2
    go_end0
    exact ⟨rfl, FIN.out, KK.out⟩
end Go.Proofs.YtgfaiihekibcbaaGreatDoor
