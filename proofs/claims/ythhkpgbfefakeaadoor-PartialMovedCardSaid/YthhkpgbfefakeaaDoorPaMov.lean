/-
  Proved: 'PartialMoved' returns true for every input and leaves its arguments as they were. No condition.
-/
import Derived.Test.YthhkpgbfefakeaaDoorPaL
import Derived.Test.YthhkpgbfefakeaaDoorOs
namespace Go.Proofs.YthhkpgbfefakeaaDoor
open Go.RowKit Go.Sx Go.Sx.Sz Go.ChangeShapes Go.WideShapes Go.ChangeAt

def mvR (d : Int) (r : Row) : Row := ⟨r.h, r.lo + d, r.hi + d⟩
def mvS (d : Int) (s : S2) : S2 := ⟨s.lo + d, s.hi + d⟩
theorem root_mv (d : Int) (r : Row) : rootS (mvR d r) = mvS d (rootS r) := by
  simp only [rootS, mvR, mvS, subS, S2.mk.injEq]; omega
theorem common_mv {l : List S2} {d : Int} (hne : l ≠ []) (h1 : ∀ s ∈ l, -100000000000000 ≤ s.lo ∧ s.hi ≤ 100000000000000) (h2 : ∀ s ∈ l, -100000000000000 ≤ s.lo + d ∧ s.hi + d ≤ 100000000000000) : common (l.map (mvS d)) = mvS d (common l) := by
  obtain ⟨s0, hs0⟩ := List.exists_mem_of_ne_nil l hne
  have g1 := h1 s0 hs0; have g2 := h2 s0 hs0
  have lo : ∀ x, (common (l.map (mvS d))).lo ≤ x ↔ (mvS d (common l)).lo ≤ x := fun x => by
    have e1 := @common_lo (l.map (mvS d)) x
    have e2 := @common_lo l (x - d)
    have e3 : (mvS d (common l)).lo ≤ x ↔ (common l).lo ≤ x - d := by simp only [mvS]; omega
    rw [e3, e1, e2]
    simp only [List.mem_map, forall_exists_index, and_imp, forall_apply_eq_imp_iff₂, mvS]
    constructor
    · rintro ⟨_, h⟩
      exact ⟨by have := h s0 hs0; omega, fun s hs => by have := h s hs; omega⟩
    · rintro ⟨_, h⟩
      exact ⟨by have := h s0 hs0; omega, fun s hs => by have := h s hs; omega⟩
  have hi : ∀ x, x ≤ (common (l.map (mvS d))).hi ↔ x ≤ (mvS d (common l)).hi := fun x => by
    have e1 := @common_hi (l.map (mvS d)) x
    have e2 := @common_hi l (x - d)
    have e3 : x ≤ (mvS d (common l)).hi ↔ x - d ≤ (common l).hi := by simp only [mvS]; omega
    rw [e3, e1, e2]
    simp only [List.mem_map, forall_exists_index, and_imp, forall_apply_eq_imp_iff₂, mvS]
    constructor
    · rintro ⟨_, h⟩
      exact ⟨by have := h s0 hs0; omega, fun s hs => by have := h s hs; omega⟩
    · rintro ⟨_, h⟩
      exact ⟨by have := h s0 hs0; omega, fun s hs => by have := h s hs; omega⟩
  have a := (lo _).1 (Int.le_refl _); have b := (lo _).2 (Int.le_refl _)
  have c := (hi _).1 (Int.le_refl _); have e := (hi _).2 (Int.le_refl _)
  have : (common (l.map (mvS d))).lo = (mvS d (common l)).lo ∧ (common (l.map (mvS d))).hi = (mvS d (common l)).hi := ⟨by omega, by omega⟩
  cases hx : common (l.map (mvS d)); cases hy : mvS d (common l)
  simp only [hx, hy] at this
  simp [this]
theorem mv_facts {l : List Row} {d : Int} (hne : l ≠ []) (hr : rowsOk l = true) (hm : rowsOk (l.map (mvR d)) = true) :
    ∃ a : S2, (toneR l = (a, 0) ∧ toneR (l.map (mvR d)) = (mvS d a, 0) ∧ -100000000000000 ≤ a.lo ∧ a.hi ≤ 100000000000000 ∧ a.lo ≤ a.hi) ∨ (toneR l = (zeroS, 23) ∧ toneR (l.map (mvR d)) = (zeroS, 23)) := by
  have e : (l.map (mvR d)).map rootS = (l.map rootS).map (mvS d) := by
    rw [List.map_map, List.map_map]; exact List.map_congr_left fun r _ => root_mv d r
  have b1 : ∀ s ∈ l.map rootS, -100000000000000 ≤ s.lo ∧ s.hi ≤ 100000000000000 := fun s hs => by
    obtain ⟨r, hr', rfl⟩ := List.mem_map.1 hs
    have := rootS_bd ((rowsOk_iff.1 hr).2 r hr'); omega
  have b2 : ∀ s ∈ l.map rootS, -100000000000000 ≤ s.lo + d ∧ s.hi + d ≤ 100000000000000 := fun s hs => by
    obtain ⟨r, hr', rfl⟩ := List.mem_map.1 hs
    have := rootS_bd ((rowsOk_iff.1 hm).2 (mvR d r) (List.mem_map_of_mem hr'))
    rw [root_mv] at this
    simp only [mvS] at this; omega
  have hc := common_mv (d := d) (by simpa using hne) b1 b2
  have hbd := common_bd (l.map rootS)
  by_cases h : (common (l.map rootS)).lo ≤ (common (l.map rootS)).hi
  · refine ⟨common (l.map rootS), .inl ⟨by rw [toneR, if_pos hr, commonR, if_pos h], ?_, hbd.1, hbd.2, h⟩⟩
    rw [toneR, if_pos hm, e, commonR, hc, if_pos (by simp only [mvS]; omega)]
  · refine ⟨zeroS, .inr ⟨by rw [toneR, if_pos hr, commonR, if_neg h], ?_⟩⟩
    rw [toneR, if_pos hm, e, commonR, hc, if_neg (by simp only [mvS]; omega)]
theorem mv_step (l : List Row) (d : Int) (k : Nat) (hk : k < l.length) : ((l.take k).map (mvR d) ++ l.drop k).set k (mvR d l[k]) = (l.take (k + 1)).map (mvR d) ++ l.drop (k + 1) := by
  have h1 : ((l.take k).map (mvR d)).length = k := by simp; omega
  rw [List.set_append_right _ _ (by omega), h1, Nat.sub_self, List.drop_eq_getElem_cons hk, List.set_cons_zero, List.take_succ_eq_append_getElem hk, List.map_append]
  simp
theorem mv_get (l : List Row) (d : Int) (k : Nat) (hk : k < l.length) : ∃ h : k < ((l.take k).map (mvR d) ++ l.drop k).length, ((l.take k).map (mvR d) ++ l.drop k)[k] = l[k] := by
  refine ⟨by simp; omega, ?_⟩
  rw [List.getElem_append_right (by simp; omega)]
  simp [Nat.min_eq_left (Nat.le_of_lt hk)]

set_option maxHeartbeats 8000000 in
theorem moved_walk (v : Value) (l : List Row) (d : Int) (hn24 : l.length * 24 ≤ 140737488351232) (w : World) (G : Gv 0 1 w) (S : Sl w 3 encR v l) :
    Calls Tryd.prog 10 #[v, .int .i64 d] w fun e w' => e = .returned (.bool true) ∧ Ext w w' := by
  obtain ⟨a?, cap, rfl, k1, k2, k3⟩ := S.len
  clear k1 k2 k3
  cases hr : rowsOk l with
  | false =>
    have HR := Lib.hid hr
    clear hr
    go_enter Tryd.func10, Tryd.ntmps10
    go_wp2_with fail
    refine (head_walk _ (G.ext (by repeat (first | with_reducible exact Ext.refl _ | with_reducible assumption | with_reducible apply Ext.alloc | with_reducible apply Ext.drew | (with_reducible refine Ext.setCell ?_ (by (try simp) <;> omega) _))))).mono ?_
    rintro e w1 ⟨rfl, x1⟩
    obtain ⟨hc1, hf1⟩ := x1.rules
    have X1 : Ext w w1 := Ext.trans (by repeat (first | with_reducible exact Ext.refl _ | with_reducible assumption | with_reducible apply Ext.alloc | with_reducible apply Ext.drew | (with_reducible refine Ext.setCell ?_ (by (try simp) <;> omega) _))) x1
    go_wp2_with fail
    refine (rvalid_walk _ l _ (G.ext (by repeat (first | with_reducible exact Ext.refl _ | with_reducible assumption | with_reducible apply Ext.alloc | with_reducible apply Ext.drew | (with_reducible refine Ext.setCell ?_ (by (try simp) <;> omega) _)))) (S.ext (by repeat (first | with_reducible exact Ext.refl _ | with_reducible assumption | with_reducible apply Ext.alloc | with_reducible apply Ext.drew | (with_reducible refine Ext.setCell ?_ (by (try simp) <;> omega) _))))).mono ?_
    rw [HR.out]
    rintro e w2 ⟨rfl, x2⟩
    obtain ⟨hc2, hf2⟩ := x2.rules
    have X2 : Ext w w2 := Ext.trans (by repeat (first | with_reducible exact Ext.refl _ | with_reducible assumption | with_reducible apply Ext.alloc | with_reducible apply Ext.drew | (with_reducible refine Ext.setCell ?_ (by (try simp) <;> omega) _))) x2
    go_wp2
    go_ret
    exact ⟨rfl, (by repeat (first | with_reducible exact Ext.refl _ | with_reducible assumption | with_reducible apply Ext.alloc | with_reducible apply Ext.drew | (with_reducible refine Ext.setCell ?_ (by (try simp) <;> omega) _)))⟩
  | true =>
  have HR := Lib.hid hr
  by_cases hl0 : l = []
  · subst hl0
    clear hr
    go_enter Tryd.func10, Tryd.ntmps10
    go_wp2_with fail
    refine (head_walk _ (G.ext (by repeat (first | with_reducible exact Ext.refl _ | with_reducible assumption | with_reducible apply Ext.alloc | with_reducible apply Ext.drew | (with_reducible refine Ext.setCell ?_ (by (try simp) <;> omega) _))))).mono ?_
    rintro e w1 ⟨rfl, x1⟩
    obtain ⟨hc1, hf1⟩ := x1.rules
    have X1 : Ext w w1 := Ext.trans (by repeat (first | with_reducible exact Ext.refl _ | with_reducible assumption | with_reducible apply Ext.alloc | with_reducible apply Ext.drew | (with_reducible refine Ext.setCell ?_ (by (try simp) <;> omega) _))) x1
    go_wp2_with fail
    refine (rvalid_walk _ [] _ (G.ext (by repeat (first | with_reducible exact Ext.refl _ | with_reducible assumption | with_reducible apply Ext.alloc | with_reducible apply Ext.drew | (with_reducible refine Ext.setCell ?_ (by (try simp) <;> omega) _)))) (S.ext (by repeat (first | with_reducible exact Ext.refl _ | with_reducible assumption | with_reducible apply Ext.alloc | with_reducible apply Ext.drew | (with_reducible refine Ext.setCell ?_ (by (try simp) <;> omega) _))))).mono ?_
    rw [HR.out]
    rintro e w2 ⟨rfl, x2⟩
    obtain ⟨hc2, hf2⟩ := x2.rules
    have X2 : Ext w w2 := Ext.trans (by repeat (first | with_reducible exact Ext.refl _ | with_reducible assumption | with_reducible apply Ext.alloc | with_reducible apply Ext.drew | (with_reducible refine Ext.setCell ?_ (by (try simp) <;> omega) _))) x2
    go_wp2
    go_ret
    exact ⟨rfl, (by repeat (first | with_reducible exact Ext.refl _ | with_reducible assumption | with_reducible apply Ext.alloc | with_reducible apply Ext.drew | (with_reducible refine Ext.setCell ?_ (by (try simp) <;> omega) _)))⟩
  have hpos : 0 < l.length := by cases l with | nil => exact absurd rfl hl0 | cons _ _ => simp
  have hlz : (((l.length : Nat) : Int) == 0) = false := by simp; omega
  by_cases hd : -100000000000000 ≤ d ∧ d ≤ 100000000000000
  · obtain ⟨d1, d2⟩ := hd
    have hbd := Lib.hid (fun k (hk : k < l.length) => rowOk_iff.1 ((rowsOk_iff.1 hr).2 l[k] (List.getElem_mem _)))
    have HM := Lib.hid (fun hm => mv_facts (d := d) hl0 hr hm)
    clear hr
    go_enter Tryd.func10, Tryd.ntmps10
    go_wp2_with fail
    refine (head_walk _ (G.ext (by repeat (first | with_reducible exact Ext.refl _ | with_reducible assumption | with_reducible apply Ext.alloc | with_reducible apply Ext.drew | (with_reducible refine Ext.setCell ?_ (by (try simp) <;> omega) _))))).mono ?_
    rintro e w1 ⟨rfl, x1⟩
    obtain ⟨hc1, hf1⟩ := x1.rules
    have X1 : Ext w w1 := Ext.trans (by repeat (first | with_reducible exact Ext.refl _ | with_reducible assumption | with_reducible apply Ext.alloc | with_reducible apply Ext.drew | (with_reducible refine Ext.setCell ?_ (by (try simp) <;> omega) _))) x1
    go_wp2_with fail
    refine (rvalid_walk _ l _ (G.ext (by repeat (first | with_reducible exact Ext.refl _ | with_reducible assumption | with_reducible apply Ext.alloc | with_reducible apply Ext.drew | (with_reducible refine Ext.setCell ?_ (by (try simp) <;> omega) _)))) (S.ext (by repeat (first | with_reducible exact Ext.refl _ | with_reducible assumption | with_reducible apply Ext.alloc | with_reducible apply Ext.drew | (with_reducible refine Ext.setCell ?_ (by (try simp) <;> omega) _))))).mono ?_
    rw [HR.out]
    rintro e w2 ⟨rfl, x2⟩
    obtain ⟨hc2, hf2⟩ := x2.rules
    have X2 : Ext w w2 := Ext.trans (by repeat (first | with_reducible exact Ext.refl _ | with_reducible assumption | with_reducible apply Ext.alloc | with_reducible apply Ext.drew | (with_reducible refine Ext.setCell ?_ (by (try simp) <;> omega) _))) x2
    have S2' := S.ext X2
    have o0 := OwnR.lit (enc := encR) (e := 23) (sz := 3) w2 #[] [] 0 rfl (Nat.le_refl _) rfl rfl (by simp [maxLen])
    clear x1 x2 X1 hc1 hf1 hc2 hf2
    go_wp2_with (at_builtin; refine wpList_own_sl et_row rfl (.tmp 30) (.tmp 31) rfl o0 rfl l _ (S2'.ext (by repeat (first | with_reducible exact Ext.refl _ | with_reducible assumption | with_reducible apply Ext.alloc | with_reducible apply Ext.drew | (with_reducible refine Ext.setCell ?_ (by (try simp) <;> omega) _)))) rfl (fun _ _ => rfl) (by simp [encR, Value.oneCell']) (by simp; omega) (by simp) ?_; intro v3 w3 o3 b3 a3)
    rw [List.nil_append] at o3
    obtain ⟨g, cap3, rfl, hg, hglt, hgf⟩ := o3.block hl0
    have X3 : Ext w w3 := X2.trans (ext_of rfl (Ext.alloc' w2 _) b3)
    have hB := X2.size
    clear o0 b3 a3 hglt hgf S2'
    go_loopw [7] (fun i wr => ∃ k : Nat, k ≤ l.length ∧ i = .int .i64 k ∧ OwnR wr w2.heap.size 23 3 encR (.slice (some ⟨g, 0, none⟩) l.length cap3) ((l.take k).map (mvR d) ++ l.drop k) ∧ Ext w wr) (fun i _ => l.length - (intOf i).toNat)
    case atStart => exact ⟨0, by omega, rfl, by simpa using o3, X3⟩
    case round =>
      clear o3 X3
      obtain ⟨k, hk, rfl, o, X⟩ := hrel
      by_cases hlt : k < l.length
      · obtain ⟨hkl, hke⟩ := mv_get l d k hlt
        obtain ⟨c1, c2, c3, c4, c5⟩ := hbd.out k hlt
        have q1 := o.cell (fun _ _ => rfl) k 1 hkl (by omega)
        have q2 := o.cell (fun _ _ => rfl) k 2 hkl (by omega)
        rw [hke] at q1 q2
        have q1' : wr.cell? ⟨g, k * 3 + 1, none⟩ = some (.int .i64 l[k].lo) := q1
        have q2' : wr.cell? ⟨g, k * 3 + 2, none⟩ = some (.int .i64 l[k].hi) := q2
        have hst := mv_step l d k hlt
        obtain ⟨r, hrr⟩ : ∃ r, l[k] = r := ⟨_, rfl⟩
        rw [hrr] at q1' q2' c1 c2 c3 c4 c5 hst
        have s1 := o.store (fun _ _ => rfl) k 1 hkl (by omega) ⟨r.h, r.lo + d, r.hi⟩ (.int .i64 (r.lo + d)) (by rw [hke, hrr]; rfl)
        have s2 := s1.store (fun _ _ => rfl) k 2 (by rw [List.length_set]; exact hkl) (by omega) (mvR d r) (.int .i64 (r.hi + d)) (by rw [List.getElem_set_self]; rfl)
        rw [List.set_set, hst] at s2
        have HS2 := Lib.hid s2
        have hf : ∀ j, wr.frozen? ⟨g, j, none⟩ = false := by
          obtain ⟨g', c', e', _, _, h⟩ := o.block (by intro h; rw [h] at hkl; simp at hkl)
          injection e' with e1 e2 e3
          injection e1 with e1
          injection e1 with e1 _ _
          rw [e1]; exact h
        have HRR := Lib.hid hrr
        clear q1 q2 hkl hke hst hrr s1 s2 o
        have hz : g < wr.heap.size := lt_of_cell q1'
        go_wp2
        go_roundw
        case rel => exact ⟨k + 1, by omega, by go_num, HS2.out, (X.setCell (p := ⟨g, k * 3 + 1, none⟩) (by show w.heap.size ≤ g; omega) _).setCell (p := ⟨g, k * 3 + 2, none⟩) (by show w.heap.size ≤ g; omega) _⟩
        case measure => simp [intOf]; omega
      · obtain rfl : k = l.length := by omega
        rw [List.take_length, List.drop_length, List.append_nil] at o
        have SM := o.sl (fun _ _ => rfl) (by simp; omega)
        have SR := S.ext X
        have hll : (l.map (mvR d)).length = l.length := by simp
        clear o
        go_wp2_with fail
        refine (rvalid_walk _ (l.map (mvR d)) _ (G.ext (by repeat (first | with_reducible exact Ext.refl _ | with_reducible assumption | with_reducible apply Ext.alloc | with_reducible apply Ext.drew | (with_reducible refine Ext.setCell ?_ (by (try simp) <;> omega) _)))) SM).mono ?_
        rintro e w4 ⟨rfl, x4⟩
        have X4 := X.trans x4
        replace SM := SM.ext x4
        replace SR := SR.ext x4
        clear x4 X
        cases hm : rowsOk (l.map (mvR d)) with
        | false =>
          go_wp2
          go_ret
          exact ⟨rfl, X4⟩
        | true =>
          obtain ⟨a, hfa⟩ := HM.out hm
          clear hm
          rcases hfa with ⟨t1, t2, t3, t4, t5⟩ | ⟨t1, t2⟩
          · have T1 := Lib.hid t1; have T2 := Lib.hid t2
            clear t1 t2
            go_wp2_with fail
            refine (tone_walk _ l _ (G.ext (by repeat (first | with_reducible exact Ext.refl _ | with_reducible assumption | with_reducible apply Ext.alloc | with_reducible apply Ext.drew | (with_reducible refine Ext.setCell ?_ (by (try simp) <;> omega) _)))) SR).mono ?_
            rw [T1.out]
            rintro e w5 ⟨rfl, x5⟩
            have X5 := X4.trans x5
            replace SM := SM.ext x5
            clear x5 X4 SR
            go_wp2_with fail
            refine (tone_walk _ (l.map (mvR d)) _ (G.ext (by repeat (first | with_reducible exact Ext.refl _ | with_reducible assumption | with_reducible apply Ext.alloc | with_reducible apply Ext.drew | (with_reducible refine Ext.setCell ?_ (by (try simp) <;> omega) _)))) (SM.ext (by repeat (first | with_reducible exact Ext.refl _ | with_reducible assumption | with_reducible apply Ext.alloc | with_reducible apply Ext.drew | (with_reducible refine Ext.setCell ?_ (by (try simp) <;> omega) _))))).mono ?_
            rw [T2.out]
            rintro e w6 ⟨rfl, x6⟩
            have k0 := x6.cell (alloc_cell w5 _ 26 0 _ rfl)
            have k1 := x6.cell (alloc_cell w5 _ 26 1 _ rfl)
            have X6 : Ext w w6 := Ext.trans (by repeat (first | with_reducible exact Ext.refl _ | with_reducible assumption | with_reducible apply Ext.alloc | with_reducible apply Ext.drew | (with_reducible refine Ext.setCell ?_ (by (try simp) <;> omega) _))) x6
            have z1 := lt_of_cell k0
            simp only at z1
            clear x6 X5 SM
            simp only [mvS]
            go_wp2
            go_ret
            exact ⟨rfl, (by repeat (first | with_reducible exact Ext.refl _ | with_reducible assumption | with_reducible apply Ext.alloc | with_reducible apply Ext.drew | (with_reducible refine Ext.setCell ?_ (by (try simp) <;> omega) _)))⟩
          · have T1 := Lib.hid t1; have T2 := Lib.hid t2
            clear t1 t2
            go_wp2_with fail
            refine (tone_walk _ l _ (G.ext (by repeat (first | with_reducible exact Ext.refl _ | with_reducible assumption | with_reducible apply Ext.alloc | with_reducible apply Ext.drew | (with_reducible refine Ext.setCell ?_ (by (try simp) <;> omega) _)))) SR).mono ?_
            rw [T1.out]
            rintro e w5 ⟨rfl, x5⟩
            have X5 := X4.trans x5
            replace SM := SM.ext x5
            clear x5 X4 SR
            go_wp2_with fail
            refine (tone_walk _ (l.map (mvR d)) _ (G.ext (by repeat (first | with_reducible exact Ext.refl _ | with_reducible assumption | with_reducible apply Ext.alloc | with_reducible apply Ext.drew | (with_reducible refine Ext.setCell ?_ (by (try simp) <;> omega) _)))) (SM.ext (by repeat (first | with_reducible exact Ext.refl _ | with_reducible assumption | with_reducible apply Ext.alloc | with_reducible apply Ext.drew | (with_reducible refine Ext.setCell ?_ (by (try simp) <;> omega) _))))).mono ?_
            rw [T2.out]
            rintro e w6 ⟨rfl, x6⟩
            have X6 : Ext w w6 := Ext.trans (by repeat (first | with_reducible exact Ext.refl _ | with_reducible assumption | with_reducible apply Ext.alloc | with_reducible apply Ext.drew | (with_reducible refine Ext.setCell ?_ (by (try simp) <;> omega) _))) x6
            clear x6 X5 SM
            go_wp2
            go_ret
            exact ⟨rfl, (by repeat (first | with_reducible exact Ext.refl _ | with_reducible assumption | with_reducible apply Ext.alloc | with_reducible apply Ext.drew | (with_reducible refine Ext.setCell ?_ (by (try simp) <;> omega) _)))⟩
  · by_cases d1 : -100000000000000 ≤ d
    · have d2 : 100000000000000 < d := by omega
      clear hd
      go_enter Tryd.func10, Tryd.ntmps10
      go_wp2_with fail
      refine (head_walk _ (G.ext (by repeat (first | with_reducible exact Ext.refl _ | with_reducible assumption | with_reducible apply Ext.alloc | with_reducible apply Ext.drew | (with_reducible refine Ext.setCell ?_ (by (try simp) <;> omega) _))))).mono ?_
      rintro e w1 ⟨rfl, x1⟩
      obtain ⟨hc1, hf1⟩ := x1.rules
      have X1 : Ext w w1 := Ext.trans (by repeat (first | with_reducible exact Ext.refl _ | with_reducible assumption | with_reducible apply Ext.alloc | with_reducible apply Ext.drew | (with_reducible refine Ext.setCell ?_ (by (try simp) <;> omega) _))) x1
      go_wp2_with fail
      refine (rvalid_walk _ l _ (G.ext (by repeat (first | with_reducible exact Ext.refl _ | with_reducible assumption | with_reducible apply Ext.alloc | with_reducible apply Ext.drew | (with_reducible refine Ext.setCell ?_ (by (try simp) <;> omega) _)))) (S.ext (by repeat (first | with_reducible exact Ext.refl _ | with_reducible assumption | with_reducible apply Ext.alloc | with_reducible apply Ext.drew | (with_reducible refine Ext.setCell ?_ (by (try simp) <;> omega) _))))).mono ?_
      rw [HR.out]
      rintro e w2 ⟨rfl, x2⟩
      obtain ⟨hc2, hf2⟩ := x2.rules
      have X2 : Ext w w2 := Ext.trans (by repeat (first | with_reducible exact Ext.refl _ | with_reducible assumption | with_reducible apply Ext.alloc | with_reducible apply Ext.drew | (with_reducible refine Ext.setCell ?_ (by (try simp) <;> omega) _))) x2
      go_wp2
      go_ret
      exact ⟨rfl, (by repeat (first | with_reducible exact Ext.refl _ | with_reducible assumption | with_reducible apply Ext.alloc | with_reducible apply Ext.drew | (with_reducible refine Ext.setCell ?_ (by (try simp) <;> omega) _)))⟩
    · clear hd
      go_enter Tryd.func10, Tryd.ntmps10
      go_wp2_with fail
      refine (head_walk _ (G.ext (by repeat (first | with_reducible exact Ext.refl _ | with_reducible assumption | with_reducible apply Ext.alloc | with_reducible apply Ext.drew | (with_reducible refine Ext.setCell ?_ (by (try simp) <;> omega) _))))).mono ?_
      rintro e w1 ⟨rfl, x1⟩
      obtain ⟨hc1, hf1⟩ := x1.rules
      have X1 : Ext w w1 := Ext.trans (by repeat (first | with_reducible exact Ext.refl _ | with_reducible assumption | with_reducible apply Ext.alloc | with_reducible apply Ext.drew | (with_reducible refine Ext.setCell ?_ (by (try simp) <;> omega) _))) x1
      go_wp2_with fail
      refine (rvalid_walk _ l _ (G.ext (by repeat (first | with_reducible exact Ext.refl _ | with_reducible assumption | with_reducible apply Ext.alloc | with_reducible apply Ext.drew | (with_reducible refine Ext.setCell ?_ (by (try simp) <;> omega) _)))) (S.ext (by repeat (first | with_reducible exact Ext.refl _ | with_reducible assumption | with_reducible apply Ext.alloc | with_reducible apply Ext.drew | (with_reducible refine Ext.setCell ?_ (by (try simp) <;> omega) _))))).mono ?_
      rw [HR.out]
      rintro e w2 ⟨rfl, x2⟩
      obtain ⟨hc2, hf2⟩ := x2.rules
      have X2 : Ext w w2 := Ext.trans (by repeat (first | with_reducible exact Ext.refl _ | with_reducible assumption | with_reducible apply Ext.alloc | with_reducible apply Ext.drew | (with_reducible refine Ext.setCell ?_ (by (try simp) <;> omega) _))) x2
      go_wp2
      go_ret
      exact ⟨rfl, (by repeat (first | with_reducible exact Ext.refl _ | with_reducible assumption | with_reducible apply Ext.alloc | with_reducible apply Ext.drew | (with_reducible refine Ext.setCell ?_ (by (try simp) <;> omega) _)))⟩

theorem partialMoved_args (H : Type) (enc : TypeId × Value → H) (W : World) (base : Nat) (vs : List Value) (ds : List (DataW H)) (_ : ∀ k, (OpenSpec.ofChange Rows.partialMovedSpec).cond = some k → k H ds = true) (hL : laidMetH Tryd.prog Rows.partialMovedRow.laid W) (hA : Args enc Tryd.prog W base Tryd.f10.params.toList vs ds) :
    Calls Tryd.prog 10 vs.toArray W fun e W' => e = .returned (.bool true) ∧ Ext W W' := by
  rw [Tryd.params10] at hA
  obtain ⟨v0, _, d0, _, rfl, rfl, h0, hA⟩ := hA.cons
  obtain ⟨v1, _, d1, _, rfl, rfl, h1, hA⟩ := hA.cons
  obtain ⟨rfl, rfl⟩ := hA.nil
  obtain ⟨l, S, _, hn⟩ := arg_rows h0
  obtain ⟨d, rfl, _⟩ := h1.int Tryd.underlying3
  exact moved_walk v0 l d hn W (gv_of hL) S

theorem partialMoved_met (os : Os) : laidMet Tryd.prog Rows.partialMovedRow.laid ((laidWorld os).forCall (fun _ _ => 0) ⟨#[], #[.slice none 0 0, .int .i64 0], []⟩).memory := laidMet_of_run' 8 (by kernel_rfl) (by kernel_rfl)
theorem partialMoved_reads (os : Os) {H : Type} (enc : TypeId × Value → H) : ∃ places, DataW.whole enc Tryd.prog ((laidWorld os).forCall (fun _ _ => 0) ⟨#[], #[.slice none 0 0, .int .i64 0], []⟩).memory Tryd.f10.params.toList Rows.partialMovedSpec.vars false #[.slice none 0 0, .int .i64 0].toList 8 = some ([.nil, .lit (.int .i64 0)], [], places) := ⟨[], by kernel_rfl⟩
set_option maxRecDepth 100000 in
theorem partialMoved_lifted (os : Os) (started : os.Started) (H : Type) (enc : TypeId × Value → H) (F : Stop.Interp) :
    ReturnsInHanded {} Tryd.checked os 10 .any ((OpenSpec.ofChange Rows.partialMovedSpec).preRow enc Tryd.prog Tryd.f10 Rows.partialMovedRow.domain false Rows.partialMovedRow.laid) (((OpenSpec.ofChange Rows.partialMovedSpec).at F).post enc Tryd.prog Tryd.f10 false true false false) := by
  obtain ⟨places, hx⟩ := partialMoved_reads os enc
  exact law_row (C := Tryd.checked) (s := (OpenSpec.ofChange Rows.partialMovedSpec)) (by kernel_rfl) started (by kernel_rfl) Tryd.func10
    (witness_row_at (enc := enc) (C := Tryd.checked) false (laidWorld os) #[.slice none 0 0, .int .i64 0] rfl (by kernel_rfl) (by kernel_rfl) (by kernel_rfl) (OpenSpec.preRow_of_cond 8 hx (by kernel_rfl) (fun k hk => by cases hk) (by kernel_rfl) (partialMoved_met os)))
    (by kernel_rfl) (by kernel_rfl) (by kernel_rfl) rfl (fun ds h => by match ds, h with | [_, _], _ => rfl) (partialMoved_args H enc)
theorem partialMoved_said : Rows.PartialMovedSaid :=
  OpenClaim.holds_of_cond 10 Tryd.f10 rfl rfl rfl rfl rfl rfl rfl ⟨rfl, rfl, rfl, rfl, rfl⟩ rfl rfl rfl rfl rfl (by kernel_rfl) Tryd.func10 (by kernel_rfl)
    (of_decide_eq_true (by kernel_rfl)) (by unfold Func.isWrapper; first | (rw [if_pos (by decide +kernel)]; kernel_rfl) | (rw [if_neg (by decide +kernel)]; exact ⟨rfl, rfl⟩))
    (fun os started H enc _ F => by rw [OpenClaim.pre_eq_preRow]; exact partialMoved_lifted os started H enc F)
theorem partialMoved_plain (f : FuncId) (fn : Func) (hf : Tryd.pinned.checked.prog.funcNamed "schisma/schismalaw37.PartialMoved" = some f) (hfn : Tryd.pinned.checked.prog.funcs[f]? = some fn) :
    false = Tryd.pinned.checked.prog.looks [] ∧ ∀ (j : Nat) t, fn.params[j]? = some t → Tryd.pinned.checked.prog.wantsStandIn t = false := by
  obtain rfl : f = 10 := Option.some.inj ((show Tryd.prog.funcNamed "schisma/schismalaw37.PartialMoved" = some 10 by kernel_rfl).symm.trans hf) |>.symm
  obtain rfl : fn = Tryd.f10 := (Option.some.inj (Tryd.func10.symm.trans hfn)).symm
  refine ⟨by kernel_rfl, fun j t ht => ?_⟩
  have hall : Tryd.f10.params.all (fun t => !Tryd.prog.wantsStandIn t) = true := by kernel_rfl
  have := (Array.all_eq_true'.1 hall) t (Array.mem_of_getElem? ht)
  have e : Tryd.prog.wantsStandIn t = false := by simpa using this
  exact e
/-- The card. -/
theorem partialMoved_holds : Rows.PartialMovedCardSaid :=
  Claim7.holds_tied_plain_at .later [] _ _ _ _ partialMoved_said (fun _ h => by cases h) (by kernel_rfl) (fun _ h => by cases h) partialMoved_row_tie rfl ⟨rfl, rfl⟩ (by kernel_rfl) rfl partialMoved_plain (by kernel_rfl)
end Go.Proofs.YthhkpgbfefakeaaDoor
