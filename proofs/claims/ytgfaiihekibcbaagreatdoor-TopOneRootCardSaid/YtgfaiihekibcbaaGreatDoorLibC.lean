/-
  Libraries of these proofs, laid as one text: ScA, ScB, ScC, ScD, ScE, ScF, ScG, ScL, ArgL.
-/
import Derived.Test.YtgfaiihekibcbaaGreatDoorLibB
import Derived.BigQuiet
import Derived.Deep.RegionHeld3
/-
  Scores as the program lays them; walks: score.bounded, cmp.Compare, cmp.Or, the two comparisons, rising.
-/
set_option linter.unusedVariables false
namespace Go.Proofs.YtgfaiihekibcbaaGreatDoor
open Go.RowKit Go.Sx Go.Sx.Sz Go.Sx.Sc

def encN (n : Nt) : List Value := [.int .i64 n.v, .int .i64 n.f, .int .i64 n.u, .int .i64 n.x.a, .int .i64 n.x.b, .int .i64 n.x.c, .int .i64 n.x.d, .int .i64 n.x.e, .int .i64 n.x.f, .bool n.tied]
def encP (p : Pr) : List Value := [.int .i64 p.a, .int .i64 p.b, .int .i64 p.want.a, .int .i64 p.want.b, .int .i64 p.want.c, .int .i64 p.want.d, .int .i64 p.want.e, .int .i64 p.want.f, .int .i64 p.bound]

/-- The cells of a note. -/
structure NtAt (w : World) (b o : Nat) (n : Nt) : Prop where
  c0 : w.cell? ⟨b, o, none⟩ = some (.int .i64 n.v)
  c1 : w.cell? ⟨b, o + 1, none⟩ = some (.int .i64 n.f)
  c2 : w.cell? ⟨b, o + 2, none⟩ = some (.int .i64 n.u)
  c3 : w.cell? ⟨b, o + 3, none⟩ = some (.int .i64 n.x.a)
  c4 : w.cell? ⟨b, o + 4, none⟩ = some (.int .i64 n.x.b)
  c5 : w.cell? ⟨b, o + 5, none⟩ = some (.int .i64 n.x.c)
  c6 : w.cell? ⟨b, o + 6, none⟩ = some (.int .i64 n.x.d)
  c7 : w.cell? ⟨b, o + 7, none⟩ = some (.int .i64 n.x.e)
  c8 : w.cell? ⟨b, o + 8, none⟩ = some (.int .i64 n.x.f)
  c9 : w.cell? ⟨b, o + 9, none⟩ = some (.bool n.tied)
set_option maxRecDepth 100000 in
theorem NtAt.ext {w w' : World} {b o : Nat} {n : Nt} (h : NtAt w b o n) (x : Ext w w') : NtAt w' b o n := ⟨x.cell h.c0, x.cell h.c1, x.cell h.c2, x.cell h.c3, x.cell h.c4, x.cell h.c5, x.cell h.c6, x.cell h.c7, x.cell h.c8, x.cell h.c9⟩
set_option maxRecDepth 100000 in
theorem Sl.nt {w : World} {a? : Option Addr} {n cap : Nat} {xs : List Nt} (h : Sl w 10 encN (.slice a? n cap) xs) (k : Nat) (hk : k < xs.length) : ∃ b o, a? = some ⟨b, o, none⟩ ∧ NtAt w b (o + k * 10) xs[k] := by
  obtain ⟨b, o, e, hc⟩ := h.at (by omega) k hk
  exact ⟨b, o, e, hc 0 (by omega), hc 1 (by omega), hc 2 (by omega), hc 3 (by omega), hc 4 (by omega), hc 5 (by omega), hc 6 (by omega), hc 7 (by omega), hc 8 (by omega), hc 9 (by omega)⟩
/-- The cells of a pair. -/
structure PrAt (w : World) (b o : Nat) (p : Pr) : Prop where
  c0 : w.cell? ⟨b, o, none⟩ = some (.int .i64 p.a)
  c1 : w.cell? ⟨b, o + 1, none⟩ = some (.int .i64 p.b)
  c2 : w.cell? ⟨b, o + 2, none⟩ = some (.int .i64 p.want.a)
  c3 : w.cell? ⟨b, o + 3, none⟩ = some (.int .i64 p.want.b)
  c4 : w.cell? ⟨b, o + 4, none⟩ = some (.int .i64 p.want.c)
  c5 : w.cell? ⟨b, o + 5, none⟩ = some (.int .i64 p.want.d)
  c6 : w.cell? ⟨b, o + 6, none⟩ = some (.int .i64 p.want.e)
  c7 : w.cell? ⟨b, o + 7, none⟩ = some (.int .i64 p.want.f)
  c8 : w.cell? ⟨b, o + 8, none⟩ = some (.int .i64 p.bound)
set_option maxRecDepth 100000 in
theorem PrAt.ext {w w' : World} {b o : Nat} {n : Pr} (h : PrAt w b o n) (x : Ext w w') : PrAt w' b o n := ⟨x.cell h.c0, x.cell h.c1, x.cell h.c2, x.cell h.c3, x.cell h.c4, x.cell h.c5, x.cell h.c6, x.cell h.c7, x.cell h.c8⟩
set_option maxRecDepth 100000 in
theorem Sl.pr {w : World} {a? : Option Addr} {n cap : Nat} {xs : List Pr} (h : Sl w 9 encP (.slice a? n cap) xs) (k : Nat) (hk : k < xs.length) : ∃ b o, a? = some ⟨b, o, none⟩ ∧ PrAt w b (o + k * 9) xs[k] := by
  obtain ⟨b, o, e, hc⟩ := h.at (by omega) k hk
  exact ⟨b, o, e, hc 0 (by omega), hc 1 (by omega), hc 2 (by omega), hc 3 (by omega), hc 4 (by omega), hc 5 (by omega), hc 6 (by omega), hc 7 (by omega), hc 8 (by omega)⟩

/-- What a score's slices read as. -/
structure ScR (w : World) (vn vp vc : Value) (s : Sc) : Prop where
  nt : Sl w 10 encN vn s.notes
  pr : Sl w 9 encP vp s.pairs
  cd : Sl w 1 encZ vc s.cads
set_option maxRecDepth 100000 in
theorem ScR.ext {w w' : World} {vn vp vc : Value} {s : Sc} (h : ScR w vn vp vc s) (x : Ext w w') : ScR w' vn vp vc s := ⟨h.nt.ext x, h.pr.ext x, h.cd.ext x⟩

set_option maxRecDepth 100000 in
set_option maxHeartbeats 1000000 in
theorem bounded_walk (v : V6) (B : Int) (h0 : 0 ≤ B) (h1 : B ≤ 1000000) (w : World) : Calls Tryz.prog 59 #[.agg #[.int .i64 v.a, .int .i64 v.b, .int .i64 v.c, .int .i64 v.d, .int .i64 v.e, .int .i64 v.f], .int .i64 B] w fun e w' => e = .returned (.bool (within v B)) ∧ Ext w w' := by
  have ix := fun (k : Nat) (hk : k < 6) (w : World) => run_index_v6 (P := Tryz.prog) (t := 32) Tryz.underlying32 Tryz.underlying3 (by kernel_rfl) v hk w
  go_enter Tryz.func59, Tryz.ntmps59
  go_wp2
  go_loop [8] (fun i => ∃ k : Nat, k ≤ 6 ∧ i = .int .i64 k ∧ withinK v B k = true) (fun i => 6 - (intOf i).toNat)
  case atStart => exact ⟨0, by omega, rfl, rfl⟩
  case round =>
    obtain ⟨k, hk, rfl, hw⟩ := hrel
    have HW := Lib.hid hw
    clear hw
    by_cases hlt : k < 6
    · have hx := ix k hlt
      clear ix
      by_cases hb : -B ≤ v.get k
      · by_cases hc : v.get k ≤ B
        · go_wp2
          go_round
          case rel => exact ⟨k + 1, by omega, by go_num, by simp [withinK, HW.out, hb, hc]⟩
          case measure => simp [intOf]; omega
        · go_wp2
          go_ret
          exact ⟨by rw [withinK_false hlt (by omega)] <;> rfl, (by repeat (first | with_reducible exact Ext.refl _ | with_reducible assumption | with_reducible apply Ext.alloc | with_reducible apply Ext.drew | (with_reducible refine Ext.setCell ?_ (by (try simp) <;> omega) _)))⟩
      · go_wp2
        go_ret
        exact ⟨by rw [withinK_false hlt (by omega)] <;> rfl, (by repeat (first | with_reducible exact Ext.refl _ | with_reducible assumption | with_reducible apply Ext.alloc | with_reducible apply Ext.drew | (with_reducible refine Ext.setCell ?_ (by (try simp) <;> omega) _)))⟩
    · obtain rfl : k = 6 := by omega
      clear ix
      go_wp2
      go_ret
      exact ⟨by rw [show within v B = true from HW.out] <;> rfl, (by repeat (first | with_reducible exact Ext.refl _ | with_reducible assumption | with_reducible apply Ext.alloc | with_reducible apply Ext.drew | (with_reducible refine Ext.setCell ?_ (by (try simp) <;> omega) _)))⟩

def cmpZ (x y : Int) : Int := if x < y then -1 else if y < x then 1 else 0
set_option maxRecDepth 100000 in
theorem compare_walk (x y : Int) (w : World) : Calls Tryz.prog 38 #[.int .i64 x, .int .i64 y] w fun e w' => e = .returned (.int .i64 (cmpZ x y)) ∧ Ext w w' := by
  rcases Int.lt_trichotomy x y with h | h | h
  · have hc : cmpZ x y = -1 := if_pos h
    rw [hc]
    clear hc
    go_enter Tryz.func38, Tryz.ntmps38
    go_wp2_with fail
    refine (isnan_walk x _).mono ?_
    rintro e w1 ⟨rfl, x1⟩
    go_wp2_with fail
    refine (isnan_walk y _).mono ?_
    rintro e w2 ⟨rfl, x2⟩
    go_wp2
    go_ret
    exact ⟨rfl, x1.trans x2⟩
  · subst h
    have hc : cmpZ x x = 0 := by unfold cmpZ; rw [if_neg (by omega), if_neg (by omega)]
    rw [hc]
    clear hc
    have h1 : ¬ x < x := by omega
    go_enter Tryz.func38, Tryz.ntmps38
    go_wp2_with fail
    refine (isnan_walk x _).mono ?_
    rintro e w1 ⟨rfl, x1⟩
    go_wp2_with fail
    refine (isnan_walk x _).mono ?_
    rintro e w2 ⟨rfl, x2⟩
    go_wp2
    go_ret
    exact ⟨rfl, x1.trans x2⟩
  · have hc : cmpZ x y = 1 := by unfold cmpZ; rw [if_neg (by omega), if_pos h]
    rw [hc]
    clear hc
    have h1 : ¬ x < y := by omega
    go_enter Tryz.func38, Tryz.ntmps38
    go_wp2_with fail
    refine (isnan_walk x _).mono ?_
    rintro e w1 ⟨rfl, x1⟩
    go_wp2_with fail
    refine (isnan_walk y _).mono ?_
    rintro e w2 ⟨rfl, x2⟩
    go_wp2
    go_ret
    exact ⟨rfl, x1.trans x2⟩

def firstZ : List Int → Int
  | [] => 0
  | x :: l => if x = 0 then firstZ l else x
set_option maxRecDepth 100000 in
theorem firstZ_drop {l : List Int} {k : Nat} (hk : k < l.length) (h : l[k] = 0) : firstZ (l.drop k) = firstZ (l.drop (k + 1)) := by
  rw [List.drop_eq_getElem_cons hk, firstZ, if_pos h]
set_option maxRecDepth 100000 in
theorem firstZ_hit {l : List Int} {k : Nat} (hk : k < l.length) (h : l[k] ≠ 0) : firstZ (l.drop k) = l[k] := by
  rw [List.drop_eq_getElem_cons hk, firstZ, if_neg h]
set_option maxRecDepth 100000 in
set_option maxHeartbeats 1000000 in
theorem or_walk (v : Value) (l : List Int) (w : World) (S : Sl w 1 encZ v l) : Calls Tryz.prog 62 #[v] w fun e w' => e = .returned (.int .i64 (firstZ l)) ∧ Ext w w' := by
  obtain ⟨a?, cap, rfl, -, -, h3⟩ := S.len
  go_enter Tryz.func62, Tryz.ntmps62
  go_wp2
  go_loopw [8] (fun i wr => ∃ k : Nat, k ≤ l.length ∧ i = .int .i64 k ∧ firstZ (l.drop k) = firstZ l ∧ Ext w wr) (fun i _ => l.length - (intOf i).toNat)
  case atStart => exact ⟨0, by omega, rfl, rfl, Ext.refl _⟩
  case round =>
    obtain ⟨k, hk, rfl, hf, X⟩ := hrel
    have HF := Lib.hid hf
    clear hf
    by_cases hlt : k < l.length
    · obtain ⟨b, o, rfl, q0⟩ := Sl.num (S.ext X) k hlt
      have hd := @firstZ_drop l k hlt
      have hh := @firstZ_hit l k hlt
      obtain ⟨x, hx⟩ : ∃ x, l[k] = x := ⟨_, rfl⟩
      rw [hx] at q0 hd hh
      have HD := Lib.hid hd; have HH := Lib.hid hh
      clear hd hh hx S
      by_cases hz : x = 0
      · have hz' : (x != 0) = false := by rw [hz]; rfl
        have HZ := Lib.hid hz
        clear hz
        go_wp2
        go_roundw
        case rel => exact ⟨k + 1, by omega, by go_num, by rw [← HF.out, HD.out HZ.out], X⟩
        case measure => simp [intOf]; omega
      · have hz' : (x != 0) = true := by rw [bne_iff_ne]; exact hz
        have HZ := Lib.hid hz
        clear hz
        go_wp2
        go_ret
        exact ⟨by rw [← HF.out, HH.out HZ.out] <;> rfl, X⟩
    · obtain rfl : k = l.length := by omega
      rw [List.drop_length] at HF
      clear S
      go_wp2
      go_ret
      exact ⟨by rw [← HF.out] <;> rfl, X⟩

/-- The order of two notes, of two pairs. -/
def cmpNt (a b : Nt) : Int := firstZ [cmpZ a.f b.f, cmpZ a.v b.v]
def cmpPr (a b : Pr) : Int := firstZ [cmpZ a.a b.a, cmpZ a.b b.b]
set_option maxRecDepth 100000 in
theorem cmpNt_iff {a b : Nt} : ¬ 0 ≤ cmpNt a b ↔ lexN a b := by
  unfold cmpNt firstZ firstZ firstZ lexN cmpZ
  repeat' split
  all_goals omega
set_option maxRecDepth 100000 in
theorem cmpPr_iff {a b : Pr} : ¬ 0 ≤ cmpPr a b ↔ lexP a b := by
  unfold cmpPr firstZ firstZ firstZ lexP cmpZ
  repeat' split
  all_goals omega
end Go.Proofs.YtgfaiihekibcbaaGreatDoor

/-
  Walks: the comparisons of notes and of pairs, score.rising at its three types, score.sizes.
-/
set_option linter.unusedVariables false
namespace Go.Proofs.YtgfaiihekibcbaaGreatDoor
open Go.RowKit Go.Sx Go.Sx.Sz Go.Sx.Sc

set_option maxRecDepth 100000 in
theorem Sl.lit2 (w : World) (a b : Int) : Sl (w.alloc (.cells #[.int .i64 a, .int .i64 b] 3)) 1 encZ (.slice (some ⟨w.heap.size, 0, none⟩) 2 2) [a, b] :=
  (Bk.mk (xs := [a, b]) (enc := encZ) w 3 #[.int .i64 a, .int .i64 b] rfl).sl (sz := 1) (fun _ _ => rfl) rfl (by simp)

set_option maxRecDepth 100000 in
set_option maxHeartbeats 1000000 in
theorem cmpnt_walk (a b : Nt) (w : World) : Calls Tryz.prog 61 #[.agg #[.int .i64 a.v, .int .i64 a.f, .int .i64 a.u, .int .i64 a.x.a, .int .i64 a.x.b, .int .i64 a.x.c, .int .i64 a.x.d, .int .i64 a.x.e, .int .i64 a.x.f, .bool a.tied],
    .agg #[.int .i64 b.v, .int .i64 b.f, .int .i64 b.u, .int .i64 b.x.a, .int .i64 b.x.b, .int .i64 b.x.c, .int .i64 b.x.d, .int .i64 b.x.e, .int .i64 b.x.f, .bool b.tied]] w fun e w' => e = .returned (.int .i64 (cmpNt a b)) ∧ Ext w w' := by
  go_enter Tryz.func61, Tryz.ntmps61
  go_wp2
  obtain ⟨W, hW⟩ : ∃ W, (w.alloc (.cells #[.int .i64 a.v, .int .i64 a.f, .int .i64 a.u, .int .i64 a.x.a, .int .i64 a.x.b, .int .i64 a.x.c, .int .i64 a.x.d, .int .i64 a.x.e, .int .i64 a.x.f, .bool a.tied] 69)).alloc (.cells #[.int .i64 b.v, .int .i64 b.f, .int .i64 b.u, .int .i64 b.x.a, .int .i64 b.x.b, .int .i64 b.x.c, .int .i64 b.x.d, .int .i64 b.x.e, .int .i64 b.x.f, .bool b.tied] 69) = W := ⟨_, rfl⟩
  have XW : Ext w W := by rw [← hW]; exact (by repeat (first | with_reducible exact Ext.refl _ | with_reducible assumption | with_reducible apply Ext.alloc | with_reducible apply Ext.drew | (with_reducible refine Ext.setCell ?_ (by (try simp) <;> omega) _)))
  have d0 : W.heap[w.heap.size]? = some (.cells #[.int .i64 a.v, .int .i64 a.f, .int .i64 a.u, .int .i64 a.x.a, .int .i64 a.x.b, .int .i64 a.x.c, .int .i64 a.x.d, .int .i64 a.x.e, .int .i64 a.x.f, .bool a.tied] 69 (0, 0)) := by rw [← hW]; exact block_alloc (block_new w _) _
  have d1 : W.heap[w.heap.size + 1]? = some (.cells #[.int .i64 b.v, .int .i64 b.f, .int .i64 b.u, .int .i64 b.x.a, .int .i64 b.x.b, .int .i64 b.x.c, .int .i64 b.x.d, .int .i64 b.x.e, .int .i64 b.x.f, .bool b.tied] 69 (0, 0)) := by rw [← hW]; exact block_at (by simp) _
  rw [hW]
  have f0 := ext_cells (block_cell d0 0 _ rfl); have f1 := ext_cells (block_cell d0 1 _ rfl)
  have g0 := ext_cells (block_cell d1 0 _ rfl); have g1 := ext_cells (block_cell d1 1 _ rfl)
  clear hW d0 d1
  refine wp_region_ord [(0,true), (1,true), (2,true), (3,true), (4,true), (5,true), (6,true), (7,true), (8,true), (9,true)] 10 Ext (Ext W) wide (by kernel_rfl) (stable_ext _) (Ext.drawn _ _) ?_
  iterate 4 (apply wpOrd_det rfl rfl; (intro w' hw'; unfold opR; go_simp; exact ⟨Ext.refl _, rfl⟩); (simp only [List.getElem_toArray, List.getElem_cons_succ, List.getElem_cons_zero, Act.put, List.setIfInBounds_toArray, List.set_cons_succ, List.set_cons_zero]; rfl))
  (apply wpOrd_det rfl rfl; (intro w' hw'; refine opR_call rfl (Go.Proofs.enters_of Tryz.func38 (by kernel_rfl) rfl) (by simp only [List.map_toArray, List.map_cons, List.map_nil, Act.eval, Array.getD_eq_getD_getElem?, List.getElem?_toArray, List.getElem?_cons_succ, List.getElem?_cons_zero, Option.getD_some]; rfl) ?_; refine (compare_walk _ _ w').mono ?_; rintro e w4 ⟨rfl, hx⟩; exact ⟨_, rfl, hx, rfl⟩); (simp only [List.getElem_toArray, List.getElem_cons_succ, List.getElem_cons_zero, Act.put, List.setIfInBounds_toArray, List.set_cons_succ, List.set_cons_zero]; rfl))
  iterate 4 (apply wpOrd_det rfl rfl; (intro w' hw'; unfold opR; go_simp; exact ⟨Ext.refl _, rfl⟩); (simp only [List.getElem_toArray, List.getElem_cons_succ, List.getElem_cons_zero, Act.put, List.setIfInBounds_toArray, List.set_cons_succ, List.set_cons_zero]; rfl))
  (apply wpOrd_det rfl rfl; (intro w' hw'; refine opR_call rfl (Go.Proofs.enters_of Tryz.func38 (by kernel_rfl) rfl) (by simp only [List.map_toArray, List.map_cons, List.map_nil, Act.eval, Array.getD_eq_getD_getElem?, List.getElem?_toArray, List.getElem?_cons_succ, List.getElem?_cons_zero, Option.getD_some]; rfl) ?_; refine (compare_walk _ _ w').mono ?_; rintro e w4 ⟨rfl, hx⟩; exact ⟨_, rfl, hx, rfl⟩); (simp only [List.getElem_toArray, List.getElem_cons_succ, List.getElem_cons_zero, Act.put, List.setIfInBounds_toArray, List.set_cons_succ, List.set_cons_zero]; rfl))
  refine wpOrd_nil rfl ?_
  intro W1 hW1
  clear f0 f1 g0 g1
  have s2 := Sl.lit2 W1 (cmpZ a.f b.f) (cmpZ a.v b.v)
  go_wp2_with fail
  refine (or_walk _ [cmpZ a.f b.f, cmpZ a.v b.v] _ s2).mono ?_
  rintro e w3 ⟨rfl, x3⟩
  have y3 : Ext w w3 := (XW.trans hW1).trans (Ext.trans (by repeat (first | with_reducible exact Ext.refl _ | with_reducible assumption | with_reducible apply Ext.alloc | with_reducible apply Ext.drew | (with_reducible refine Ext.setCell ?_ (by (try simp) <;> omega) _))) x3)
  go_wp2
  go_ret
  exact ⟨rfl, y3⟩
set_option maxRecDepth 100000 in
set_option maxHeartbeats 1000000 in
theorem cmppr_walk (a b : Pr) (w : World) : Calls Tryz.prog 64 #[.agg #[.int .i64 a.a, .int .i64 a.b, .int .i64 a.want.a, .int .i64 a.want.b, .int .i64 a.want.c, .int .i64 a.want.d, .int .i64 a.want.e, .int .i64 a.want.f, .int .i64 a.bound],
    .agg #[.int .i64 b.a, .int .i64 b.b, .int .i64 b.want.a, .int .i64 b.want.b, .int .i64 b.want.c, .int .i64 b.want.d, .int .i64 b.want.e, .int .i64 b.want.f, .int .i64 b.bound]] w fun e w' => e = .returned (.int .i64 (cmpPr a b)) ∧ Ext w w' := by
  go_enter Tryz.func64, Tryz.ntmps64
  go_wp2
  obtain ⟨W, hW⟩ : ∃ W, (w.alloc (.cells #[.int .i64 a.a, .int .i64 a.b, .int .i64 a.want.a, .int .i64 a.want.b, .int .i64 a.want.c, .int .i64 a.want.d, .int .i64 a.want.e, .int .i64 a.want.f, .int .i64 a.bound] 48)).alloc (.cells #[.int .i64 b.a, .int .i64 b.b, .int .i64 b.want.a, .int .i64 b.want.b, .int .i64 b.want.c, .int .i64 b.want.d, .int .i64 b.want.e, .int .i64 b.want.f, .int .i64 b.bound] 48) = W := ⟨_, rfl⟩
  have XW : Ext w W := by rw [← hW]; exact (by repeat (first | with_reducible exact Ext.refl _ | with_reducible assumption | with_reducible apply Ext.alloc | with_reducible apply Ext.drew | (with_reducible refine Ext.setCell ?_ (by (try simp) <;> omega) _)))
  have d0 : W.heap[w.heap.size]? = some (.cells #[.int .i64 a.a, .int .i64 a.b, .int .i64 a.want.a, .int .i64 a.want.b, .int .i64 a.want.c, .int .i64 a.want.d, .int .i64 a.want.e, .int .i64 a.want.f, .int .i64 a.bound] 48 (0, 0)) := by rw [← hW]; exact block_alloc (block_new w _) _
  have d1 : W.heap[w.heap.size + 1]? = some (.cells #[.int .i64 b.a, .int .i64 b.b, .int .i64 b.want.a, .int .i64 b.want.b, .int .i64 b.want.c, .int .i64 b.want.d, .int .i64 b.want.e, .int .i64 b.want.f, .int .i64 b.bound] 48 (0, 0)) := by rw [← hW]; exact block_at (by simp) _
  rw [hW]
  have f0 := ext_cells (block_cell d0 0 _ rfl); have f1 := ext_cells (block_cell d0 1 _ rfl)
  have g0 := ext_cells (block_cell d1 0 _ rfl); have g1 := ext_cells (block_cell d1 1 _ rfl)
  clear hW d0 d1
  refine wp_region_ord [(0,true), (1,true), (2,true), (3,true), (4,true), (5,true), (6,true), (7,true), (8,true), (9,true)] 10 Ext (Ext W) wide (by kernel_rfl) (stable_ext _) (Ext.drawn _ _) ?_
  iterate 4 (apply wpOrd_det rfl rfl; (intro w' hw'; unfold opR; go_simp; exact ⟨Ext.refl _, rfl⟩); (simp only [List.getElem_toArray, List.getElem_cons_succ, List.getElem_cons_zero, Act.put, List.setIfInBounds_toArray, List.set_cons_succ, List.set_cons_zero]; rfl))
  (apply wpOrd_det rfl rfl; (intro w' hw'; refine opR_call rfl (Go.Proofs.enters_of Tryz.func38 (by kernel_rfl) rfl) (by simp only [List.map_toArray, List.map_cons, List.map_nil, Act.eval, Array.getD_eq_getD_getElem?, List.getElem?_toArray, List.getElem?_cons_succ, List.getElem?_cons_zero, Option.getD_some]; rfl) ?_; refine (compare_walk _ _ w').mono ?_; rintro e w4 ⟨rfl, hx⟩; exact ⟨_, rfl, hx, rfl⟩); (simp only [List.getElem_toArray, List.getElem_cons_succ, List.getElem_cons_zero, Act.put, List.setIfInBounds_toArray, List.set_cons_succ, List.set_cons_zero]; rfl))
  iterate 4 (apply wpOrd_det rfl rfl; (intro w' hw'; unfold opR; go_simp; exact ⟨Ext.refl _, rfl⟩); (simp only [List.getElem_toArray, List.getElem_cons_succ, List.getElem_cons_zero, Act.put, List.setIfInBounds_toArray, List.set_cons_succ, List.set_cons_zero]; rfl))
  (apply wpOrd_det rfl rfl; (intro w' hw'; refine opR_call rfl (Go.Proofs.enters_of Tryz.func38 (by kernel_rfl) rfl) (by simp only [List.map_toArray, List.map_cons, List.map_nil, Act.eval, Array.getD_eq_getD_getElem?, List.getElem?_toArray, List.getElem?_cons_succ, List.getElem?_cons_zero, Option.getD_some]; rfl) ?_; refine (compare_walk _ _ w').mono ?_; rintro e w4 ⟨rfl, hx⟩; exact ⟨_, rfl, hx, rfl⟩); (simp only [List.getElem_toArray, List.getElem_cons_succ, List.getElem_cons_zero, Act.put, List.setIfInBounds_toArray, List.set_cons_succ, List.set_cons_zero]; rfl))
  refine wpOrd_nil rfl ?_
  intro W1 hW1
  clear f0 f1 g0 g1
  have s2 := Sl.lit2 W1 (cmpZ a.a b.a) (cmpZ a.b b.b)
  go_wp2_with fail
  refine (or_walk _ [cmpZ a.a b.a, cmpZ a.b b.b] _ s2).mono ?_
  rintro e w3 ⟨rfl, x3⟩
  have y3 : Ext w w3 := (XW.trans hW1).trans (Ext.trans (by repeat (first | with_reducible exact Ext.refl _ | with_reducible assumption | with_reducible apply Ext.alloc | with_reducible apply Ext.drew | (with_reducible refine Ext.setCell ?_ (by (try simp) <;> omega) _))) x3)
  go_wp2
  go_ret
  exact ⟨rfl, y3⟩
def lexAll {α : Type} [Inhabited α] (R : α → α → Prop) (l : List α) : Prop := ∀ i, i < l.length - 1 → R (l.getD i default) (l.getD (i + 1) default)
instance {α : Type} [Inhabited α] (R : α → α → Prop) [DecidableRel R] (l : List α) : Decidable (lexAll R l) := by unfold lexAll; infer_instance
set_option maxRecDepth 100000 in
theorem getD_eq' {α : Type} [Inhabited α] {l : List α} {i : Nat} (h : i < l.length) : l.getD i default = l[i] := by
  rw [List.getD_eq_getElem?_getD, List.getElem?_eq_getElem h]; rfl
instance : DecidableRel lexN := fun a b => inferInstanceAs (Decidable (lexN a b))
instance : DecidableRel lexP := fun a b => inferInstanceAs (Decidable (lexP a b))

set_option maxRecDepth 100000 in
set_option maxHeartbeats 2000000 in
theorem risnt_walk (v : Value) (l : List Nt) (w : World) (S : Sl w 10 encN v l) : Calls Tryz.prog 60 #[v, .func (.func 61) #[] #[]] w fun e w' => e = .returned (.bool (decide (lexAll lexN l))) ∧ Ext w w' := by
  obtain ⟨a?, cap, rfl, -, -, h3⟩ := S.len
  go_enter Tryz.func60, Tryz.ntmps60
  go_wp2
  go_loopw [5] (fun i wr => ∃ k : Nat, k ≤ l.length ∧ i = .int .i64 ((k : Int) + 1) ∧ (∀ i, i < k → i < l.length - 1 → lexN (l.getD i default) (l.getD (i + 1) default)) ∧ Ext w wr) (fun i _ => l.length + 1 - (intOf i).toNat)
  case atStart => exact ⟨0, by omega, rfl, fun i h => by omega, Ext.refl _⟩
  case round =>
    obtain ⟨k, hk, rfl, hall, X⟩ := hrel
    have HA := Lib.hid hall
    clear hall
    by_cases hlt : k + 1 < l.length
    · obtain ⟨b, o, rfl, A⟩ := Sl.nt (S.ext X) k (by omega)
      obtain ⟨b', o', e', B⟩ := Sl.nt (S.ext X) (k + 1) hlt
      cases e'
      have hx := getD_eq' (l := l) (i := k) (by omega)
      have hy := getD_eq' (l := l) (i := k + 1) hlt
      obtain ⟨x, hxx⟩ : ∃ x, l[k] = x := ⟨_, rfl⟩
      obtain ⟨y, hyy⟩ : ∃ y, l[k + 1] = y := ⟨_, rfl⟩
      rw [hxx] at A hx
      rw [hyy] at B hy
      have HX := Lib.hid hx; have HY := Lib.hid hy
      have i1 : (0 : Int) ≤ (k : Int) := by omega
      have i2 : (k : Int) < (l.length : Int) := by omega
      have i3 : (0 : Int) ≤ (k : Int) + 1 := by omega
      have i4 : (k : Int) + 1 < (l.length : Int) := by omega
      have e1 : IntKind.i64.wrap (k : Int) = (k : Int) := IntWalk.i64_in _ (by omega)
      have f0 := ext_cells A.c0; have f1 := ext_cells A.c1; have f2 := ext_cells A.c2; have f3 := ext_cells A.c3; have f4 := ext_cells A.c4; have f5 := ext_cells A.c5; have f6 := ext_cells A.c6; have f7 := ext_cells A.c7; have f8 := ext_cells A.c8; have f9 := ext_cells A.c9
      have g0 := ext_cells B.c0; have g1 := ext_cells B.c1; have g2 := ext_cells B.c2; have g3 := ext_cells B.c3; have g4 := ext_cells B.c4; have g5 := ext_cells B.c5; have g6 := ext_cells B.c6; have g7 := ext_cells B.c7; have g8 := ext_cells B.c8; have g9 := ext_cells B.c9
      have hc := @cmpNt_iff x y
      obtain ⟨c, hcc⟩ : ∃ c, cmpNt x y = c := ⟨_, rfl⟩
      rw [hcc] at hc
      have HC := Lib.hid hc; have HCC := Lib.hid hcc
      clear S A B hx hy hxx hyy hc hcc
      obtain ⟨wo, rfl⟩ : ∃ wo : World, wo = wr := ⟨_, rfl⟩
      by_cases hneg : 0 ≤ c
      all_goals
        go_wp2
        refine wp_region_ord [(0,true), (1,true), (2,true), (3,true), (4,true), (5,true), (6,true), (7,true), (8,true), (9,true), (10,true), (11,true)] 12 Ext (Ext wo) wide (by kernel_rfl) (stable_ext _) (Ext.drawn _ _) ?_
        iterate 10 (apply wpOrd_det rfl rfl; (intro w' hw'; unfold opR; go_simp; exact ⟨Ext.refl _, rfl⟩); (simp only [List.getElem_toArray, List.getElem_cons_succ, List.getElem_cons_zero, Act.put, List.setIfInBounds_toArray, List.set_cons_succ, List.set_cons_zero]; rfl))
        (apply wpOrd_det rfl rfl; (intro w' hw'; refine opR_callv rfl (by rfl) (Go.Proofs.enters_of Tryz.func61 (by kernel_rfl) rfl) (by simp only [List.map_toArray, List.map_cons, List.map_nil, Act.eval, Array.getD_eq_getD_getElem?, List.getElem?_toArray, List.getElem?_cons_succ, List.getElem?_cons_zero, Option.getD_some]; rfl) ?_; refine (cmpnt_walk x y w').mono ?_; rw [HCC.out]; rintro e w4 ⟨rfl, hx⟩; exact ⟨_, rfl, hx, rfl⟩); (simp only [List.getElem_toArray, List.getElem_cons_succ, List.getElem_cons_zero, Act.put, List.setIfInBounds_toArray, List.set_cons_succ, List.set_cons_zero]; rfl))
        (apply wpOrd_det rfl rfl; (intro w' hw'; unfold opR; go_simp; exact ⟨Ext.refl _, rfl⟩); (simp only [List.getElem_toArray, List.getElem_cons_succ, List.getElem_cons_zero, Act.put, List.setIfInBounds_toArray, List.set_cons_succ, List.set_cons_zero]; rfl))
        refine wpOrd_nil rfl ?_
        intro W1 hW1
        clear f0 f1 f2 f3 f4 f5 f6 f7 f8 f9 g0 g1 g2 g3 g4 g5 g6 g7 g8 g9 e1
        go_wp2
      · go_ret
        exact ⟨by rw [decide_eq_false (fun h => by
          have := h k (by omega)
          rw [HX.out, HY.out] at this
          exact absurd hneg (by have := HC.out.2 this; omega))] <;> rfl, X.trans hW1⟩
      · go_roundw
        case rel => exact ⟨k + 1, by omega, by go_num, fun i h1 h2 => by
          rcases Nat.lt_or_ge i k with h3 | h3
          · exact HA.out i h3 h2
          · obtain rfl : i = k := by omega
            rw [HX.out, HY.out]; exact HC.out.1 hneg, X.trans hW1⟩
        case measure => simp [intOf]; omega
    · have hd : lexAll lexN l := fun i hi => HA.out i (by omega) hi
      have HD := Lib.hid hd
      clear S hd
      go_wp2
      go_ret
      exact ⟨by rw [decide_eq_true HD.out] <;> rfl, X⟩
set_option maxRecDepth 100000 in
set_option maxHeartbeats 2000000 in
theorem rispr_walk (v : Value) (l : List Pr) (w : World) (S : Sl w 9 encP v l) : Calls Tryz.prog 63 #[v, .func (.func 64) #[] #[]] w fun e w' => e = .returned (.bool (decide (lexAll lexP l))) ∧ Ext w w' := by
  obtain ⟨a?, cap, rfl, -, -, h3⟩ := S.len
  go_enter Tryz.func63, Tryz.ntmps63
  go_wp2
  go_loopw [5] (fun i wr => ∃ k : Nat, k ≤ l.length ∧ i = .int .i64 ((k : Int) + 1) ∧ (∀ i, i < k → i < l.length - 1 → lexP (l.getD i default) (l.getD (i + 1) default)) ∧ Ext w wr) (fun i _ => l.length + 1 - (intOf i).toNat)
  case atStart => exact ⟨0, by omega, rfl, fun i h => by omega, Ext.refl _⟩
  case round =>
    obtain ⟨k, hk, rfl, hall, X⟩ := hrel
    have HA := Lib.hid hall
    clear hall
    by_cases hlt : k + 1 < l.length
    · obtain ⟨b, o, rfl, A⟩ := Sl.pr (S.ext X) k (by omega)
      obtain ⟨b', o', e', B⟩ := Sl.pr (S.ext X) (k + 1) hlt
      cases e'
      have hx := getD_eq' (l := l) (i := k) (by omega)
      have hy := getD_eq' (l := l) (i := k + 1) hlt
      obtain ⟨x, hxx⟩ : ∃ x, l[k] = x := ⟨_, rfl⟩
      obtain ⟨y, hyy⟩ : ∃ y, l[k + 1] = y := ⟨_, rfl⟩
      rw [hxx] at A hx
      rw [hyy] at B hy
      have HX := Lib.hid hx; have HY := Lib.hid hy
      have i1 : (0 : Int) ≤ (k : Int) := by omega
      have i2 : (k : Int) < (l.length : Int) := by omega
      have i3 : (0 : Int) ≤ (k : Int) + 1 := by omega
      have i4 : (k : Int) + 1 < (l.length : Int) := by omega
      have e1 : IntKind.i64.wrap (k : Int) = (k : Int) := IntWalk.i64_in _ (by omega)
      have f0 := ext_cells A.c0; have f1 := ext_cells A.c1; have f2 := ext_cells A.c2; have f3 := ext_cells A.c3; have f4 := ext_cells A.c4; have f5 := ext_cells A.c5; have f6 := ext_cells A.c6; have f7 := ext_cells A.c7; have f8 := ext_cells A.c8
      have g0 := ext_cells B.c0; have g1 := ext_cells B.c1; have g2 := ext_cells B.c2; have g3 := ext_cells B.c3; have g4 := ext_cells B.c4; have g5 := ext_cells B.c5; have g6 := ext_cells B.c6; have g7 := ext_cells B.c7; have g8 := ext_cells B.c8
      have hc := @cmpPr_iff x y
      obtain ⟨c, hcc⟩ : ∃ c, cmpPr x y = c := ⟨_, rfl⟩
      rw [hcc] at hc
      have HC := Lib.hid hc; have HCC := Lib.hid hcc
      clear S A B hx hy hxx hyy hc hcc
      obtain ⟨wo, rfl⟩ : ∃ wo : World, wo = wr := ⟨_, rfl⟩
      by_cases hneg : 0 ≤ c
      all_goals
        go_wp2
        refine wp_region_ord [(0,true), (1,true), (2,true), (3,true), (4,true), (5,true), (6,true), (7,true), (8,true), (9,true), (10,true), (11,true)] 12 Ext (Ext wo) wide (by kernel_rfl) (stable_ext _) (Ext.drawn _ _) ?_
        iterate 10 (apply wpOrd_det rfl rfl; (intro w' hw'; unfold opR; go_simp; exact ⟨Ext.refl _, rfl⟩); (simp only [List.getElem_toArray, List.getElem_cons_succ, List.getElem_cons_zero, Act.put, List.setIfInBounds_toArray, List.set_cons_succ, List.set_cons_zero]; rfl))
        (apply wpOrd_det rfl rfl; (intro w' hw'; refine opR_callv rfl (by rfl) (Go.Proofs.enters_of Tryz.func64 (by kernel_rfl) rfl) (by simp only [List.map_toArray, List.map_cons, List.map_nil, Act.eval, Array.getD_eq_getD_getElem?, List.getElem?_toArray, List.getElem?_cons_succ, List.getElem?_cons_zero, Option.getD_some]; rfl) ?_; refine (cmppr_walk x y w').mono ?_; rw [HCC.out]; rintro e w4 ⟨rfl, hx⟩; exact ⟨_, rfl, hx, rfl⟩); (simp only [List.getElem_toArray, List.getElem_cons_succ, List.getElem_cons_zero, Act.put, List.setIfInBounds_toArray, List.set_cons_succ, List.set_cons_zero]; rfl))
        (apply wpOrd_det rfl rfl; (intro w' hw'; unfold opR; go_simp; exact ⟨Ext.refl _, rfl⟩); (simp only [List.getElem_toArray, List.getElem_cons_succ, List.getElem_cons_zero, Act.put, List.setIfInBounds_toArray, List.set_cons_succ, List.set_cons_zero]; rfl))
        refine wpOrd_nil rfl ?_
        intro W1 hW1
        clear f0 f1 f2 f3 f4 f5 f6 f7 f8 g0 g1 g2 g3 g4 g5 g6 g7 g8 e1
        go_wp2
      · go_ret
        exact ⟨by rw [decide_eq_false (fun h => by
          have := h k (by omega)
          rw [HX.out, HY.out] at this
          exact absurd hneg (by have := HC.out.2 this; omega))] <;> rfl, X.trans hW1⟩
      · go_roundw
        case rel => exact ⟨k + 1, by omega, by go_num, fun i h1 h2 => by
          rcases Nat.lt_or_ge i k with h3 | h3
          · exact HA.out i h3 h2
          · obtain rfl : i = k := by omega
            rw [HX.out, HY.out]; exact HC.out.1 hneg, X.trans hW1⟩
        case measure => simp [intOf]; omega
    · have hd : lexAll lexP l := fun i hi => HA.out i (by omega) hi
      have HD := Lib.hid hd
      clear S hd
      go_wp2
      go_ret
      exact ⟨by rw [decide_eq_true HD.out] <;> rfl, X⟩
def ltZ (a b : Int) : Prop := a < b
instance : DecidableRel ltZ := fun a b => inferInstanceAs (Decidable (a < b))
set_option maxRecDepth 100000 in
set_option maxHeartbeats 2000000 in
theorem riscd_walk (v : Value) (l : List Int) (w : World) (S : Sl w 1 encZ v l) : Calls Tryz.prog 65 #[v, .func (.func 38) #[] #[]] w fun e w' => e = .returned (.bool (decide (lexAll ltZ l))) ∧ Ext w w' := by
  obtain ⟨a?, cap, rfl, -, -, h3⟩ := S.len
  go_enter Tryz.func65, Tryz.ntmps65
  go_wp2
  go_loopw [5] (fun i wr => ∃ k : Nat, k ≤ l.length ∧ i = .int .i64 ((k : Int) + 1) ∧ (∀ i, i < k → i < l.length - 1 → ltZ (l.getD i default) (l.getD (i + 1) default)) ∧ Ext w wr) (fun i _ => l.length + 1 - (intOf i).toNat)
  case atStart => exact ⟨0, by omega, rfl, fun i h => by omega, Ext.refl _⟩
  case round =>
    obtain ⟨k, hk, rfl, hall, X⟩ := hrel
    have HA := Lib.hid hall
    clear hall
    by_cases hlt : k + 1 < l.length
    · obtain ⟨b, o, rfl, A⟩ := Sl.num (S.ext X) k (by omega)
      obtain ⟨b', o', e', B⟩ := Sl.num (S.ext X) (k + 1) hlt
      cases e'
      have hx := getD_eq' (l := l) (i := k) (by omega)
      have hy := getD_eq' (l := l) (i := k + 1) hlt
      obtain ⟨x, hxx⟩ : ∃ x, l[k] = x := ⟨_, rfl⟩
      obtain ⟨y, hyy⟩ : ∃ y, l[k + 1] = y := ⟨_, rfl⟩
      rw [hxx] at A hx
      rw [hyy] at B hy
      have HX := Lib.hid hx; have HY := Lib.hid hy
      have i1 : (0 : Int) ≤ (k : Int) := by omega
      have i2 : (k : Int) < (l.length : Int) := by omega
      have i3 : (0 : Int) ≤ (k : Int) + 1 := by omega
      have i4 : (k : Int) + 1 < (l.length : Int) := by omega
      have e1 : IntKind.i64.wrap (k : Int) = (k : Int) := IntWalk.i64_in _ (by omega)
      have f0 := ext_cells A; have g0 := ext_cells B
      have hc : ¬ 0 ≤ cmpZ x y ↔ x < y := by unfold cmpZ; repeat' split
                                             all_goals omega
      obtain ⟨c, hcc⟩ : ∃ c, cmpZ x y = c := ⟨_, rfl⟩
      rw [hcc] at hc
      have HC := Lib.hid hc; have HCC := Lib.hid hcc
      clear S A B hx hy hxx hyy hc hcc
      obtain ⟨wo, rfl⟩ : ∃ wo : World, wo = wr := ⟨_, rfl⟩
      by_cases hneg : 0 ≤ c
      all_goals
        go_wp2
        refine wp_region_ord [(0,true), (1,true), (2,true), (3,true), (4,true), (5,true), (6,true), (7,true), (8,true), (9,true), (10,true), (11,true)] 12 Ext (Ext wo) wide (by kernel_rfl) (stable_ext _) (Ext.drawn _ _) ?_
        iterate 10 (apply wpOrd_det rfl rfl; (intro w' hw'; unfold opR; go_simp; exact ⟨Ext.refl _, rfl⟩); (simp only [List.getElem_toArray, List.getElem_cons_succ, List.getElem_cons_zero, Act.put, List.setIfInBounds_toArray, List.set_cons_succ, List.set_cons_zero]; rfl))
        (apply wpOrd_det rfl rfl; (intro w' hw'; refine opR_callv rfl (by rfl) (Go.Proofs.enters_of Tryz.func38 (by kernel_rfl) rfl) (by simp only [List.map_toArray, List.map_cons, List.map_nil, Act.eval, Array.getD_eq_getD_getElem?, List.getElem?_toArray, List.getElem?_cons_succ, List.getElem?_cons_zero, Option.getD_some]; rfl) ?_; refine (compare_walk x y w').mono ?_; rw [HCC.out]; rintro e w4 ⟨rfl, hx⟩; exact ⟨_, rfl, hx, rfl⟩); (simp only [List.getElem_toArray, List.getElem_cons_succ, List.getElem_cons_zero, Act.put, List.setIfInBounds_toArray, List.set_cons_succ, List.set_cons_zero]; rfl))
        (apply wpOrd_det rfl rfl; (intro w' hw'; unfold opR; go_simp; exact ⟨Ext.refl _, rfl⟩); (simp only [List.getElem_toArray, List.getElem_cons_succ, List.getElem_cons_zero, Act.put, List.setIfInBounds_toArray, List.set_cons_succ, List.set_cons_zero]; rfl))
        refine wpOrd_nil rfl ?_
        intro W1 hW1
        clear f0 g0 e1
        go_wp2
      · go_ret
        exact ⟨by rw [decide_eq_false (fun h => by
          have := h k (by omega)
          rw [HX.out, HY.out] at this
          exact absurd hneg (by have := HC.out.2 this; omega))] <;> rfl, X.trans hW1⟩
      · go_roundw
        case rel => exact ⟨k + 1, by omega, by go_num, fun i h1 h2 => by
          rcases Nat.lt_or_ge i k with h3 | h3
          · exact HA.out i h3 h2
          · obtain rfl : i = k := by omega
            rw [HX.out, HY.out]; exact HC.out.1 hneg, X.trans hW1⟩
        case measure => simp [intOf]; omega
    · have hd : lexAll ltZ l := fun i hi => HA.out i (by omega) hi
      have HD := Lib.hid hd
      clear S hd
      go_wp2
      go_ret
      exact ⟨by rw [decide_eq_true HD.out] <;> rfl, X⟩
end Go.Proofs.YtgfaiihekibcbaaGreatDoor

/-
  Walks: score.sizes, notes, cadences.
-/
set_option linter.unusedVariables false
namespace Go.Proofs.YtgfaiihekibcbaaGreatDoor
open Go.RowKit Go.Sx Go.Sx.Sz Go.Sx.Sc

set_option maxRecDepth 100000 in
set_option maxHeartbeats 2000000 in
theorem sizes_walk (vn vp vc : Value) (s : Sc) (w : World) (S : ScR w vn vp vc s) : Calls Tryz.prog 29 #[.agg #[.int .i64 s.voices, vn, vp, vc]] w fun e w' => e = .returned (.bool (decide (szOk' s))) ∧ Ext w w' := by
  obtain ⟨an, cn, rfl, -, -, -⟩ := S.nt.len
  obtain ⟨ap, cp, rfl, -, -, -⟩ := S.pr.len
  obtain ⟨ac, cc, rfl, -, -, -⟩ := S.cd.len
  have fin : ∀ b : Bool, (b = true ↔ szOk' s) → decide (szOk' s) = b := fun b h => by
    cases b with
    | true => exact decide_eq_true (h.1 rfl)
    | false => exact decide_eq_false (fun k => by cases h.2 k)
  have FIN := Lib.hid fin
  clear fin S
  by_cases h1 : 1 ≤ s.voices
  · by_cases h2 : s.voices ≤ 8
    · by_cases h3 : s.notes.length ≤ 200
      · by_cases h4 : s.pairs.length ≤ 400
        · go_enter Tryz.func29, Tryz.ntmps29
          go_wp2
          go_ret
          exact ⟨by rw [FIN.out (decide ((s.cads.length : Int) < 16)) (by unfold szOk'; simp; omega)] <;> rfl, (by repeat (first | with_reducible exact Ext.refl _ | with_reducible assumption | with_reducible apply Ext.alloc | with_reducible apply Ext.drew | (with_reducible refine Ext.setCell ?_ (by (try simp) <;> omega) _)))⟩
        · go_enter Tryz.func29, Tryz.ntmps29
          go_wp2
          go_ret
          exact ⟨by rw [FIN.out false (by unfold szOk'; simp; omega)] <;> rfl, (by repeat (first | with_reducible exact Ext.refl _ | with_reducible assumption | with_reducible apply Ext.alloc | with_reducible apply Ext.drew | (with_reducible refine Ext.setCell ?_ (by (try simp) <;> omega) _)))⟩
      · go_enter Tryz.func29, Tryz.ntmps29
        go_wp2
        go_ret
        exact ⟨by rw [FIN.out false (by unfold szOk'; simp; omega)] <;> rfl, (by repeat (first | with_reducible exact Ext.refl _ | with_reducible assumption | with_reducible apply Ext.alloc | with_reducible apply Ext.drew | (with_reducible refine Ext.setCell ?_ (by (try simp) <;> omega) _)))⟩
    · go_enter Tryz.func29, Tryz.ntmps29
      go_wp2
      go_ret
      exact ⟨by rw [FIN.out false (by unfold szOk'; simp; omega)] <;> rfl, (by repeat (first | with_reducible exact Ext.refl _ | with_reducible assumption | with_reducible apply Ext.alloc | with_reducible apply Ext.drew | (with_reducible refine Ext.setCell ?_ (by (try simp) <;> omega) _)))⟩
  · go_enter Tryz.func29, Tryz.ntmps29
    go_wp2
    go_ret
    exact ⟨by rw [FIN.out false (by unfold szOk'; simp; omega)] <;> rfl, (by repeat (first | with_reducible exact Ext.refl _ | with_reducible assumption | with_reducible apply Ext.alloc | with_reducible apply Ext.drew | (with_reducible refine Ext.setCell ?_ (by (try simp) <;> omega) _)))⟩

set_option maxRecDepth 100000 in
set_option maxHeartbeats 4000000 in
theorem notes_walk (vn vp vc : Value) (s : Sc) (w : World) (S : ScR w vn vp vc s) : Calls Tryz.prog 30 #[.agg #[.int .i64 s.voices, vn, vp, vc]] w fun e w' => e = .returned (.bool (decide (ntOk s))) ∧ Ext w w' := by
  obtain ⟨an, cn, rfl, -, -, hln⟩ := S.nt.len
  obtain ⟨ap, cp, rfl, -, -, -⟩ := S.pr.len
  obtain ⟨ac, cc, rfl, -, -, -⟩ := S.cd.len
  have SN := S.nt
  go_enter Tryz.func30, Tryz.ntmps30
  go_wp2
  have b0 := block_new w (.cells #[.int .i64 s.voices, .slice an s.notes.length cn, .slice ap s.pairs.length cp, .slice ac s.cads.length cc] 26)
  have XW := Ext.alloc' w (.cells #[.int .i64 s.voices, .slice an s.notes.length cn, .slice ap s.pairs.length cp, .slice ac s.cads.length cc] 26)
  obtain ⟨B, hB⟩ : ∃ B, w.heap.size = B := ⟨_, rfl⟩
  obtain ⟨W, hW⟩ : ∃ W, w.alloc (.cells #[.int .i64 s.voices, .slice an s.notes.length cn, .slice ap s.pairs.length cp, .slice ac s.cads.length cc] 26) = W := ⟨_, rfl⟩
  rw [hB] at b0 ⊢
  rw [hW] at b0 XW ⊢
  have HB := Lib.hid hB
  clear hB hW S
  go_loopw [8] (fun i wr => ∃ k : Nat, k ≤ s.notes.length ∧ i = .int .i64 k ∧ (∀ i, i < k → noteOk s.voices (s.N i)) ∧ Ext W wr) (fun i _ => s.notes.length - (intOf i).toNat)
  case atStart => exact ⟨0, by omega, rfl, fun i h => by omega, Ext.refl _⟩
  case round =>
    obtain ⟨k, hk, rfl, hall, X⟩ := hrel
    have HA := Lib.hid hall
    clear hall
    by_cases hlt : k < s.notes.length
    · obtain ⟨b, o, rfl, A⟩ := Sl.nt ((SN.ext XW).ext X) k hlt
      have hN := Sc.N_eq hlt
      obtain ⟨n, hn⟩ : ∃ n, s.notes[k] = n := ⟨_, rfl⟩
      rw [hn] at A hN
      have HN := Lib.hid hN
      have bad : ¬ noteOk s.voices n → decide (ntOk s) = false := fun h => decide_eq_false (fun hh => h (by rw [← hN]; exact hh.1 k hlt))
      have BAD := Lib.hid bad
      obtain ⟨q0, q1, q2, q3, q4, q5, q6, q7, q8, q9⟩ := A
      have v0 := block_cell (block_ext X b0) 0 (.int .i64 s.voices) rfl
      have vz := block_lt (block_ext X b0)
      have vn : ¬ B = wr.heap.size := by omega
      obtain ⟨c, hc⟩ : ∃ c, within n.x 24 = c := ⟨_, rfl⟩
      have HC := Lib.hid hc
      have XX := XW.trans X
      clear hN hn bad hc
      by_cases h1 : n.v < 0
      · go_wp2
        go_ret
        exact ⟨by rw [BAD.out (fun h => by have := h.1.1; omega)] <;> rfl, (by repeat (first | with_reducible exact Ext.refl _ | with_reducible assumption | with_reducible apply Ext.alloc | with_reducible apply Ext.drew | (with_reducible refine Ext.setCell ?_ (by (try simp) <;> omega) _)))⟩
      by_cases h2 : s.voices ≤ n.v
      · go_wp2
        go_ret
        exact ⟨by rw [BAD.out (fun h => by have := h.1.2; omega)] <;> rfl, (by repeat (first | with_reducible exact Ext.refl _ | with_reducible assumption | with_reducible apply Ext.alloc | with_reducible apply Ext.drew | (with_reducible refine Ext.setCell ?_ (by (try simp) <;> omega) _)))⟩
      by_cases h3 : n.f < 0
      · go_wp2
        go_ret
        exact ⟨by rw [BAD.out (fun h => by have := h.2.1.1; omega)] <;> rfl, (by repeat (first | with_reducible exact Ext.refl _ | with_reducible assumption | with_reducible apply Ext.alloc | with_reducible apply Ext.drew | (with_reducible refine Ext.setCell ?_ (by (try simp) <;> omega) _)))⟩
      by_cases h4 : n.u ≤ n.f
      · go_wp2
        go_ret
        exact ⟨by rw [BAD.out (fun h => by have := h.2.1.2; omega)] <;> rfl, (by repeat (first | with_reducible exact Ext.refl _ | with_reducible assumption | with_reducible apply Ext.alloc | with_reducible apply Ext.drew | (with_reducible refine Ext.setCell ?_ (by (try simp) <;> omega) _)))⟩
      by_cases h5 : 100000 < n.u
      · go_wp2
        go_ret
        exact ⟨by rw [BAD.out (fun h => by have := h.2.2.1; omega)] <;> rfl, (by repeat (first | with_reducible exact Ext.refl _ | with_reducible assumption | with_reducible apply Ext.alloc | with_reducible apply Ext.drew | (with_reducible refine Ext.setCell ?_ (by (try simp) <;> omega) _)))⟩
      obtain ⟨wo, rfl⟩ : ∃ wo : World, wo = wr := ⟨_, rfl⟩
      go_wp2_with fail
      refine (bounded_walk n.x 24 (by omega) (by omega) _).mono ?_
      rw [HC.out]
      rintro e w1 ⟨rfl, x1⟩
      have X1 : Ext W w1 := X.trans (Ext.trans (by repeat (first | with_reducible exact Ext.refl _ | with_reducible assumption | with_reducible apply Ext.alloc | with_reducible apply Ext.drew | (with_reducible refine Ext.setCell ?_ (by (try simp) <;> omega) _))) x1)
      cases c with
      | false =>
        clear q0 q1 q2 q3 q4 q5 q6 q7 q8 q9 v0 x1
        go_wp2
        go_ret
        exact ⟨by rw [BAD.out (fun h => by have := h.2.2.2; rw [HC.out] at this; cases this)] <;> rfl, XW.trans X1⟩
      | true =>
        clear q0 q1 q2 q3 q4 q5 q6 q7 q8 q9 v0 x1
        go_wp2
        go_roundw
        case rel => exact ⟨k + 1, by omega, by go_num, fun i hi => by
          rcases Nat.lt_or_ge i k with h | h
          · exact HA.out i h
          · obtain rfl : i = k := by omega
            rw [HN.out]; exact ⟨⟨by omega, by omega⟩, ⟨by omega, by omega⟩, by omega, HC.out⟩, X1⟩
        case measure => simp [intOf]; omega
    · obtain rfl : k = s.notes.length := by omega
      have v1 := block_cell (block_ext X b0) 1 (.slice an s.notes.length cn) rfl
      have SX := (SN.ext XW).ext X
      obtain ⟨c, hc⟩ : ∃ c, decide (lexAll lexN s.notes) = c := ⟨_, rfl⟩
      have hres : decide (ntOk s) = c := by
        rw [← hc]
        exact decide_eq_decide.2 ⟨fun h => h.2, fun h => ⟨HA.out, h⟩⟩
      have HR := Lib.hid hres; have HC := Lib.hid hc
      clear hres hc SN
      go_wp2_with fail
      refine (risnt_walk _ s.notes _ SX).mono ?_
      rw [HC.out]
      rintro e w1 ⟨rfl, x1⟩
      go_wp2
      go_ret
      exact ⟨by rw [HR.out] <;> rfl, (XW.trans X).trans x1⟩

set_option maxRecDepth 100000 in
set_option maxHeartbeats 4000000 in
theorem cads_walk (vn vp vc : Value) (s : Sc) (w : World) (S : ScR w vn vp vc s) : Calls Tryz.prog 33 #[.agg #[.int .i64 s.voices, vn, vp, vc]] w fun e w' => e = .returned (.bool (decide (cadOk s))) ∧ Ext w w' := by
  obtain ⟨an, cn, rfl, -, -, -⟩ := S.nt.len
  obtain ⟨ap, cp, rfl, -, -, -⟩ := S.pr.len
  obtain ⟨ac, cc, rfl, -, -, hlc⟩ := S.cd.len
  have SN := S.cd
  go_enter Tryz.func33, Tryz.ntmps33
  go_wp2
  have b0 := block_new w (.cells #[.int .i64 s.voices, .slice an s.notes.length cn, .slice ap s.pairs.length cp, .slice ac s.cads.length cc] 26)
  have XW := Ext.alloc' w (.cells #[.int .i64 s.voices, .slice an s.notes.length cn, .slice ap s.pairs.length cp, .slice ac s.cads.length cc] 26)
  obtain ⟨B, hB⟩ : ∃ B, w.heap.size = B := ⟨_, rfl⟩
  obtain ⟨W, hW⟩ : ∃ W, w.alloc (.cells #[.int .i64 s.voices, .slice an s.notes.length cn, .slice ap s.pairs.length cp, .slice ac s.cads.length cc] 26) = W := ⟨_, rfl⟩
  rw [hB] at b0 ⊢
  rw [hW] at b0 XW ⊢
  clear hB hW S
  go_loopw [8] (fun i wr => ∃ k : Nat, k ≤ s.cads.length ∧ i = .int .i64 k ∧ (∀ i, i < k → 1 ≤ s.C i ∧ s.C i ≤ 99999) ∧ Ext W wr) (fun i _ => s.cads.length - (intOf i).toNat)
  case atStart => exact ⟨0, by omega, rfl, fun i h => by omega, Ext.refl _⟩
  case round =>
    obtain ⟨k, hk, rfl, hall, X⟩ := hrel
    have HA := Lib.hid hall
    clear hall
    by_cases hlt : k < s.cads.length
    · obtain ⟨b, o, rfl, q0⟩ := Sl.num ((SN.ext XW).ext X) k hlt
      have hN := Sc.C_eq hlt
      obtain ⟨n, hn⟩ : ∃ n, s.cads[k] = n := ⟨_, rfl⟩
      rw [hn] at q0 hN
      have HN := Lib.hid hN
      have bad : ¬ (1 ≤ n ∧ n ≤ 99999) → decide (cadOk s) = false := fun h => decide_eq_false (fun hh => h (by rw [← hN]; exact hh.1 k hlt))
      have BAD := Lib.hid bad
      have XX := XW.trans X
      clear hN hn bad SN
      by_cases h1 : n < 1
      · go_wp2
        go_ret
        exact ⟨by rw [BAD.out (by omega)] <;> rfl, XX⟩
      by_cases h2 : 100000 ≤ n
      · go_wp2
        go_ret
        exact ⟨by rw [BAD.out (by omega)] <;> rfl, XX⟩
      go_wp2
      go_roundw
      case rel => exact ⟨k + 1, by omega, by go_num, fun i hi => by
          rcases Nat.lt_or_ge i k with h | h
          · exact HA.out i h
          · obtain rfl : i = k := by omega
            rw [HN.out]; omega, X⟩
      case measure => simp [intOf]; omega
    · obtain rfl : k = s.cads.length := by omega
      have v1 := block_cell (block_ext X b0) 3 (.slice ac s.cads.length cc) rfl
      have SX := (SN.ext XW).ext X
      obtain ⟨c, hc⟩ : ∃ c, decide (lexAll ltZ s.cads) = c := ⟨_, rfl⟩
      have hres : decide (cadOk s) = c := by
        rw [← hc]
        exact decide_eq_decide.2 ⟨fun h => h.2, fun h => ⟨HA.out, h⟩⟩
      have HR := Lib.hid hres; have HC := Lib.hid hc
      clear hres hc SN
      go_wp2_with fail
      refine (riscd_walk _ s.cads _ SX).mono ?_
      rw [HC.out]
      rintro e w1 ⟨rfl, x1⟩
      go_wp2
      go_ret
      exact ⟨by rw [HR.out] <;> rfl, (XW.trans X).trans x1⟩
end Go.Proofs.YtgfaiihekibcbaaGreatDoor

/-
  Walk: score.voices.
-/
set_option linter.unusedVariables false
namespace Go.Proofs.YtgfaiihekibcbaaGreatDoor
open Go.RowKit Go.Sx Go.Sx.Sz Go.Sx.Sc

set_option maxRecDepth 100000 in
theorem zero8 : ∃ zs : Array Value, (∀ u : World, (zeroValue 120).run Tryz.prog u = .ok (.agg zs) u) ∧ zs.toList = (lasts []).flatMap encN ∧ ¬ zs = #[] := by
  refine ⟨((lasts []).flatMap encN).toArray, fun u => ?_, by simp, by simp [lasts, encN]; exact ⟨0, by omega⟩⟩
  have h : (Tryz.prog.info? 120).map (fun i => i.zero) = some (some (.agg ((lasts []).flatMap encN).toArray)) := by kernel_rfl
  cases hi : Tryz.prog.info? 120 with
  | none => rw [hi] at h; cases h
  | some i =>
    rw [hi] at h
    have hz : i.zero = some (.agg ((lasts []).flatMap encN).toArray) := by simpa using h
    generalize ((lasts []).flatMap encN).toArray = z at *
    simp [zeroValue, typeInfo, hi, hz]
set_option maxRecDepth 100000 in
theorem eqv_run (a b : V6) (w : World) : (Op.equalIn 10000 32 (.agg #[.int .i64 a.a, .int .i64 a.b, .int .i64 a.c, .int .i64 a.d, .int .i64 a.e, .int .i64 a.f]) (.agg #[.int .i64 b.a, .int .i64 b.b, .int .i64 b.c, .int .i64 b.d, .int .i64 b.e, .int .i64 b.f])).run Tryz.prog w = .ok (decide (a = b)) w :=
  run_eq_v6 Tryz.underlying32 Tryz.underlying3 (by kernel_rfl) a b 9998 w
set_option maxRecDepth 100000 in
theorem encN_len (n : Nt) : (encN n).length = 10 := rfl

set_option maxRecDepth 100000 in
set_option maxHeartbeats 4000000 in
theorem voices_walk (vn vp vc : Value) (s : Sc) (h8 : s.voices ≤ 8) (hnt : ntOk s) (w : World) (S : ScR w vn vp vc s) : Calls Tryz.prog 31 #[.agg #[.int .i64 s.voices, vn, vp, vc]] w fun e w' => e = .returned (.bool (decide (vcOk s))) ∧ Ext w w' := by
  obtain ⟨an, cn, rfl, -, -, hln⟩ := S.nt.len
  obtain ⟨ap, cp, rfl, -, -, -⟩ := S.pr.len
  obtain ⟨ac, cc, rfl, -, -, -⟩ := S.cd.len
  have SN := S.nt
  obtain ⟨zs, hz, hzl, hzn⟩ := zero8
  go_enter Tryz.func31, Tryz.ntmps31
  go_wp2
  have XW := Ext.alloc' w (.cells #[.int .i64 s.voices, .slice an s.notes.length cn, .slice ap s.pairs.length cp, .slice ac s.cads.length cc] 26)
  obtain ⟨B, hB⟩ : ∃ B, w.heap.size = B := ⟨_, rfl⟩
  obtain ⟨W, hW⟩ : ∃ W, w.alloc (.cells #[.int .i64 s.voices, .slice an s.notes.length cn, .slice ap s.pairs.length cp, .slice ac s.cads.length cc] 26) = W := ⟨_, rfl⟩
  have hWz : W.heap.size = B + 1 := by rw [← hW, ← hB]; simp
  have bk := Bk.mk (xs := lasts []) (enc := encN) W 120 zs hzl
  have X0 := Ext.alloc' W (.cells zs 120)
  rw [hB, hW]
  rw [hW] at XW
  rw [hWz] at bk
  obtain ⟨W1, hW1⟩ : ∃ W1, W.alloc (.cells zs 120) = W1 := ⟨_, rfl⟩
  rw [hW1] at bk X0 ⊢
  have HWZ := Lib.hid hWz; have HNT := Lib.hid hnt
  clear hB hW S hW1 hz hzl hzn hWz hnt
  go_loopw [10] (fun i wr => ∃ k : Nat, k ≤ s.notes.length ∧ i = .int .i64 k ∧ (∀ i, i < k → vcAt s i) ∧ Bk wr (B + 1) 120 encN (lasts (s.notes.take k)) ∧ Ext W wr) (fun i _ => s.notes.length - (intOf i).toNat)
  case atStart => exact ⟨0, by omega, rfl, fun i h => by omega, bk, X0⟩
  case round =>
    clear bk X0
    obtain ⟨k, hk, rfl, hall, bk, X⟩ := hrel
    have HA := Lib.hid hall
    by_cases hlt : k < s.notes.length
    · obtain ⟨b, o, rfl, A⟩ := Sl.nt ((SN.ext XW).ext X) k hlt
      have hN := Sc.N_eq hlt
      have hiff := vcAt_iff HNT.out hlt hall
      have hno := HNT.out.note hlt
      have htk := take_N hlt
      rw [← hN] at A
      obtain ⟨⟨nv, nf, nu, nx, nt⟩, hn⟩ : ∃ n, s.N k = n := ⟨_, rfl⟩
      rw [hn] at A hiff hno htk
      have HTK := Lib.hid htk
      have HN := Lib.hid hn
      unfold noteOk at hno
      obtain ⟨q0, q1, q2, q3, q4, q5, q6, q7, q8, q9⟩ := A
      dsimp only at q0 q1 q2 q3 q4 q5 q6 q7 q8 q9 hno hiff
      obtain ⟨⟨v0, v1⟩, ⟨f0, f1⟩, u1, -⟩ := hno
      obtain ⟨v, rfl⟩ : ∃ v : Nat, nv = v := ⟨nv.toNat, by omega⟩
      have hv8 : v < 8 := by omega
      obtain ⟨bf, hbf⟩ : ∃ bf, lastV (s.notes.take k) (v : Int) = bf := ⟨_, rfl⟩
      rw [hbf] at hiff
      have hl8 := lasts_len (s.notes.take k)
      have hc := fun j hj => bk.cell (sz := 10) (fun n _ => encN_len n) v j (by rw [hl8]; exact hv8) hj
      have hg : ∀ h, (lasts (s.notes.take k))[v]'h = bf := fun h => by rw [lasts_get, hbf]
      simp only [hg] at hc
      have c0 := hc 0 (by omega); have c1 := hc 1 (by omega); have c2 := hc 2 (by omega); have c3 := hc 3 (by omega); have c4 := hc 4 (by omega); have c5 := hc 5 (by omega); have c6 := hc 6 (by omega); have c7 := hc 7 (by omega); have c8 := hc 8 (by omega); have c9 := hc 9 (by omega)
      simp only [encN, List.getD_eq_getElem?_getD, List.getElem?_cons_succ, List.getElem?_cons_zero, Option.getD_some, Nat.add_zero] at c0 c1 c2 c3 c4 c5 c6 c7 c8 c9
      have XX := XW.trans X
      have hz := bk.lt
      have hzn : ¬ B + 1 = wr.heap.size := by omega
      have hzn2 : ¬ B = wr.heap.size := by omega
      have hzn3 : ¬ B + 1 = wr.heap.size + 1 := by omega
      have hzl : B + 1 < wr.heap.size + 1 := by omega
      have hzl2 : B + 1 < wr.heap.size + 1 + 1 := by omega
      have bad : ¬ vcAt s k → decide (vcOk s) = false := fun h => vc_bad hlt h
      have BAD := Lib.hid bad
      have HIFF := Lib.hid hiff
      have hput := bk.put (sz := 10) (fun n _ => encN_len n) ⟨(v : Int), nf, nu, nx, nt⟩ rfl v (by rw [hl8]; exact hv8)
      rw [← lasts_snoc _ _ v rfl hv8, ← htk] at hput
      have HPUT := Lib.hid hput
      have hxs := setCells_ext X (g := B + 1) (by rw [HWZ.out]; exact Nat.le_refl _) (encN ⟨(v : Int), nf, nu, nx, nt⟩) (v * 10)
      have HXS := Lib.hid hxs
      have z1 := bk.free
      have iv0 : (0 : Int) ≤ (v : Int) := by omega
      have iv1 : (v : Int) < 8 := by omega
      have step : vcAt s k → ∀ i, i < k + 1 → vcAt s i := fun h i hi => by
        rcases Nat.lt_or_ge i k with h1 | h1
        · exact HA.out i h1
        · obtain rfl : i = k := by omega
          exact h
      have STEP := Lib.hid step
      clear hn bad hall hiff htk hbf hl8 hc hg bk hput hxs step v0 v1
      obtain ⟨wo, rfl⟩ : ∃ wo : World, wo = wr := ⟨_, rfl⟩
      by_cases h1 : nf < bf.u
      · go_wp2
        go_ret
        exact ⟨by rw [BAD.out (fun h => by have := (HIFF.out.1 h).1; omega)] <;> rfl, (by repeat (first | with_reducible exact Ext.refl _ | with_reducible assumption | with_reducible apply Ext.alloc | with_reducible apply Ext.drew | (with_reducible refine Ext.setCell ?_ (by (try simp) <;> omega) _)))⟩
      cases nt with
      | false =>
        have hgood : vcAt s k := HIFF.out.2 ⟨by omega, fun h => by cases h⟩
        have HG := Lib.hid hgood
        clear hgood
        go_wp2
        go_roundw
        case rel => exact ⟨k + 1, by omega, by go_num, STEP.out HG.out, (Bk.alloc (Bk.alloc HPUT.out _) _), (HXS.out.alloc _).alloc _⟩
        case measure => simp [intOf]; omega
      | true =>
        by_cases h2 : bf.u = nf
        · have e2 : (bf.u != nf) = false := by rw [bne_eq_false_iff_eq]; exact h2
          by_cases h3 : bf.u = 0
          · have e3 : (bf.u == 0) = true := by rw [h3]; rfl
            go_wp2
            go_ret
            exact ⟨by rw [BAD.out (fun h => ((HIFF.out.1 h).2 (by first | rfl | trivial)).2.1 h3)] <;> rfl, (by repeat (first | with_reducible exact Ext.refl _ | with_reducible assumption | with_reducible apply Ext.alloc | with_reducible apply Ext.drew | (with_reducible refine Ext.setCell ?_ (by (try simp) <;> omega) _)))⟩
          · have e3 : (bf.u == 0) = false := by rw [beq_eq_false_iff_ne]; exact h3
            have hq := fun w => eqv_run bf.x nx w
            by_cases h4 : bf.x = nx
            · have hgood : vcAt s k := HIFF.out.2 ⟨by omega, fun _ => ⟨h2, h3, h4⟩⟩
              have HG := Lib.hid hgood
              rw [decide_eq_true h4] at hq
              clear hgood h2 h3 h4
              go_wp2
              go_roundw
              case rel => exact ⟨k + 1, by omega, by go_num, STEP.out HG.out, (Bk.alloc (Bk.alloc HPUT.out _) _), (HXS.out.alloc _).alloc _⟩
              case measure => simp [intOf]; omega
            · have hbad := BAD.out (fun h => h4 ((HIFF.out.1 h).2 rfl).2.2)
              have HBAD := Lib.hid hbad
              rw [decide_eq_false h4] at hq
              clear hbad h4
              go_wp2
              go_ret
              exact ⟨by rw [HBAD.out] <;> rfl, (by repeat (first | with_reducible exact Ext.refl _ | with_reducible assumption | with_reducible apply Ext.alloc | with_reducible apply Ext.drew | (with_reducible refine Ext.setCell ?_ (by (try simp) <;> omega) _)))⟩
        · have e2 : (bf.u != nf) = true := by rw [bne_iff_ne]; exact h2
          go_wp2
          go_ret
          exact ⟨by rw [BAD.out (fun h => h2 ((HIFF.out.1 h).2 (by first | rfl | trivial)).1)] <;> rfl, (by repeat (first | with_reducible exact Ext.refl _ | with_reducible assumption | with_reducible apply Ext.alloc | with_reducible apply Ext.drew | (with_reducible refine Ext.setCell ?_ (by (try simp) <;> omega) _)))⟩
    · obtain rfl : k = s.notes.length := by omega
      have hd : vcOk s := fun i hi => HA.out i hi
      have HD := Lib.hid hd
      clear hall bk hd
      go_wp2
      go_ret
      exact ⟨by rw [decide_eq_true HD.out] <;> rfl, XW.trans X⟩
end Go.Proofs.YtgfaiihekibcbaaGreatDoor

/-
  Walk: score.pairs.
-/
set_option linter.unusedVariables false
namespace Go.Proofs.YtgfaiihekibcbaaGreatDoor
open Go.RowKit Go.Sx Go.Sx.Sz Go.Sx.Sc

set_option maxRecDepth 100000 in
set_option maxHeartbeats 4000000 in
theorem pairs_walk (vn vp vc : Value) (s : Sc) (w : World) (S : ScR w vn vp vc s) : Calls Tryz.prog 32 #[.agg #[.int .i64 s.voices, vn, vp, vc]] w fun e w' => e = .returned (.bool (decide (prsOk s))) ∧ Ext w w' := by
  obtain ⟨an, cn, rfl, -, -, hln⟩ := S.nt.len
  obtain ⟨ap, cp, rfl, -, -, hlp⟩ := S.pr.len
  obtain ⟨ac, cc, rfl, -, -, -⟩ := S.cd.len
  have SN := S.nt
  have SP := S.pr
  go_enter Tryz.func32, Tryz.ntmps32
  go_wp2
  have b0 := block_new w (.cells #[.int .i64 s.voices, .slice an s.notes.length cn, .slice ap s.pairs.length cp, .slice ac s.cads.length cc] 26)
  have XW := Ext.alloc' w (.cells #[.int .i64 s.voices, .slice an s.notes.length cn, .slice ap s.pairs.length cp, .slice ac s.cads.length cc] 26)
  obtain ⟨B, hB⟩ : ∃ B, w.heap.size = B := ⟨_, rfl⟩
  obtain ⟨W, hW⟩ : ∃ W, w.alloc (.cells #[.int .i64 s.voices, .slice an s.notes.length cn, .slice ap s.pairs.length cp, .slice ac s.cads.length cc] 26) = W := ⟨_, rfl⟩
  rw [hB] at b0 ⊢
  rw [hW] at b0 XW ⊢
  clear hB hW S
  go_loopw [10] (fun i wr => ∃ k : Nat, k ≤ s.pairs.length ∧ i = .int .i64 k ∧ (∀ i, i < k → pairOk s (s.P i)) ∧ Ext W wr) (fun i _ => s.pairs.length - (intOf i).toNat)
  case atStart => exact ⟨0, by omega, rfl, fun i h => by omega, Ext.refl _⟩
  case round =>
    obtain ⟨k, hk, rfl, hall, X⟩ := hrel
    have HA := Lib.hid hall
    clear hall
    by_cases hlt : k < s.pairs.length
    · obtain ⟨b, o, rfl, A⟩ := Sl.pr ((SP.ext XW).ext X) k hlt
      have hN := Sc.P_eq hlt
      obtain ⟨p, hp⟩ : ∃ p, s.pairs[k] = p := ⟨_, rfl⟩
      rw [hp] at A hN
      have HN := Lib.hid hN
      have bad : ¬ pairOk s p → decide (prsOk s) = false := fun h => decide_eq_false (fun hh => h (by rw [← hN]; exact hh.1 k hlt))
      have BAD := Lib.hid bad
      obtain ⟨q0, q1, q2, q3, q4, q5, q6, q7, q8⟩ := A
      have bX := block_ext X b0
      have n1 := block_cell bX 1 (.slice an s.notes.length cn) rfl
      have vz := block_lt bX
      have vn : ¬ B = wr.heap.size := by omega
      obtain ⟨c, hc⟩ : ∃ c, within p.want 16 = c := ⟨_, rfl⟩
      have HC := Lib.hid hc
      have XX := XW.trans X
      have BX := Lib.hid bX
      clear hN hp bad hc bX
      by_cases h1 : p.a < 0
      · go_wp2
        go_ret
        exact ⟨by rw [BAD.out (fun h => by have := h.1.1; omega)] <;> rfl, (by repeat (first | with_reducible exact Ext.refl _ | with_reducible assumption | with_reducible apply Ext.alloc | with_reducible apply Ext.drew | (with_reducible refine Ext.setCell ?_ (by (try simp) <;> omega) _)))⟩
      by_cases h2 : p.b ≤ p.a
      · go_wp2
        go_ret
        exact ⟨by rw [BAD.out (fun h => by have := h.1.2; omega)] <;> rfl, (by repeat (first | with_reducible exact Ext.refl _ | with_reducible assumption | with_reducible apply Ext.alloc | with_reducible apply Ext.drew | (with_reducible refine Ext.setCell ?_ (by (try simp) <;> omega) _)))⟩
      by_cases h3 : s.notes.length ≤ p.b
      · go_wp2
        go_ret
        exact ⟨by rw [BAD.out (fun h => by have := h.2.1; omega)] <;> rfl, (by repeat (first | with_reducible exact Ext.refl _ | with_reducible assumption | with_reducible apply Ext.alloc | with_reducible apply Ext.drew | (with_reducible refine Ext.setCell ?_ (by (try simp) <;> omega) _)))⟩
      obtain ⟨wo, rfl⟩ : ∃ wo : World, wo = wr := ⟨_, rfl⟩
      go_wp2_with fail
      refine (bounded_walk p.want 16 (by omega) (by omega) _).mono ?_
      rw [HC.out]
      rintro e w1 ⟨rfl, x1⟩
      have y1 : Ext wo w1 := Ext.trans (by repeat (first | with_reducible exact Ext.refl _ | with_reducible assumption | with_reducible apply Ext.alloc | with_reducible apply Ext.drew | (with_reducible refine Ext.setCell ?_ (by (try simp) <;> omega) _))) x1
      have X1 : Ext W w1 := X.trans y1
      have bP := block_ext x1 (block_new wo (.cells #[.int .i64 p.a, .int .i64 p.b, .int .i64 p.want.a, .int .i64 p.want.b, .int .i64 p.want.c, .int .i64 p.want.d, .int .i64 p.want.e, .int .i64 p.want.f, .int .i64 p.bound] 48))
      clear q0 q1 q2 q3 q4 q5 q6 q7 q8 n1 x1
      cases c with
      | false =>
        go_wp2
        go_ret
        exact ⟨by rw [BAD.out (fun h => by have := h.2.2.1; rw [HC.out] at this; cases this)] <;> rfl, XW.trans X1⟩
      | true =>
        have p0 := block_cell bP 0 _ rfl
        have p1 := block_cell bP 1 _ rfl
        have p8 := block_cell bP 8 (.int .i64 p.bound) rfl
        by_cases h4 : p.bound < 0
        · go_wp2
          go_ret
          exact ⟨by rw [BAD.out (fun h => by have := h.2.2.2.1.1; omega)] <;> rfl, XW.trans X1⟩
        by_cases h5 : 100000 < p.bound
        · go_wp2
          go_ret
          exact ⟨by rw [BAD.out (fun h => by have := h.2.2.2.1.2; omega)] <;> rfl, XW.trans X1⟩
        obtain ⟨ia, hia⟩ : ∃ i : Nat, p.a = i := ⟨p.a.toNat, by omega⟩
        obtain ⟨ib, hib⟩ : ∃ i : Nat, p.b = i := ⟨p.b.toNat, by omega⟩
        have la : ia < s.notes.length := by omega
        have lb : ib < s.notes.length := by omega
        obtain ⟨bn, on, rfl, NA⟩ := Sl.nt ((SN.ext XW).ext X1) ia la
        obtain ⟨bn', on', e', NB⟩ := Sl.nt ((SN.ext XW).ext X1) ib lb
        cases e'
        rw [← Sc.N_eq la] at NA
        rw [← Sc.N_eq lb] at NB
        have hok : pairOk s p ↔ (s.N ia).v ≠ (s.N ib).v ∧ (s.N ib).f < (s.N ia).u := by
          unfold pairOk
          rw [hia, hib, Int.toNat_natCast, Int.toNat_natCast]
          constructor
          · exact fun h => h.2.2.2.2
          · exact fun h => ⟨⟨by omega, by omega⟩, by omega, HC.out, ⟨by omega, by omega⟩, h⟩
        rw [hia] at p0
        rw [hib] at p1
        have n1 := block_cell (block_ext y1 BX.out) 1 (.slice (some ⟨bn, on, none⟩) s.notes.length cn) rfl
        obtain ⟨na, hna⟩ : ∃ n, s.N ia = n := ⟨_, rfl⟩
        obtain ⟨nb, hnb⟩ : ∃ n, s.N ib = n := ⟨_, rfl⟩
        rw [hna] at NA hok
        rw [hnb] at NB hok
        have HOK := Lib.hid hok
        have i1 : (0 : Int) ≤ (ia : Int) := by omega
        have i2 : (ia : Int) < (s.notes.length : Int) := by omega
        have i3 : (0 : Int) ≤ (ib : Int) := by omega
        have i4 : (ib : Int) < (s.notes.length : Int) := by omega
        obtain ⟨a0, a1, a2, a3, a4, a5, a6, a7, a8, a9⟩ := NA
        obtain ⟨d0, d1, d2, d3, d4, d5, d6, d7, d8, d9⟩ := NB
        have lz1 := lt_of_cell a0; have lz2 := block_lt (block_ext y1 BX.out); have lz3 := block_lt bP
        simp only at lz1
        have m1 : ¬ bn = w1.heap.size := by omega
        have m2 : ¬ B = w1.heap.size := by omega
        have m3 : ¬ wo.heap.size = w1.heap.size := by omega
        have m4 : bn < w1.heap.size + 1 := by omega
        have m5 : B < w1.heap.size + 1 := by omega
        have m6 : wo.heap.size < w1.heap.size + 1 := by omega
        have m7 : ¬ bn = w1.heap.size + 1 := by omega
        have m8 : ¬ B = w1.heap.size + 1 := by omega
        have m9 : ¬ wo.heap.size = w1.heap.size + 1 := by omega
        clear hok hna hnb bP la lb
        have XX1 := XW.trans X1
        go_wp2
        go_region_held3 (fun w' => w'.cell? ⟨B, 1, none⟩ = some (.slice (some ⟨bn, on, none⟩) s.notes.length cn) ∧ w'.cell? ⟨wo.heap.size, 0, none⟩ = some (.int .i64 ia) ∧ w'.cell? ⟨wo.heap.size, 1, none⟩ = some (.int .i64 ib) ∧ w'.cell? ⟨bn, on + ia * 10, none⟩ = some (.int .i64 na.v) ∧ w'.cell? ⟨bn, on + ia * 10 + 1, none⟩ = some (.int .i64 na.f) ∧ w'.cell? ⟨bn, on + ia * 10 + 2, none⟩ = some (.int .i64 na.u) ∧ w'.cell? ⟨bn, on + ia * 10 + 3, none⟩ = some (.int .i64 na.x.a) ∧ w'.cell? ⟨bn, on + ia * 10 + 4, none⟩ = some (.int .i64 na.x.b) ∧ w'.cell? ⟨bn, on + ia * 10 + 5, none⟩ = some (.int .i64 na.x.c) ∧ w'.cell? ⟨bn, on + ia * 10 + 6, none⟩ = some (.int .i64 na.x.d) ∧ w'.cell? ⟨bn, on + ia * 10 + 7, none⟩ = some (.int .i64 na.x.e) ∧ w'.cell? ⟨bn, on + ia * 10 + 8, none⟩ = some (.int .i64 na.x.f) ∧ w'.cell? ⟨bn, on + ia * 10 + 9, none⟩ = some (.bool na.tied) ∧ w'.cell? ⟨bn, on + ib * 10, none⟩ = some (.int .i64 nb.v) ∧ w'.cell? ⟨bn, on + ib * 10 + 1, none⟩ = some (.int .i64 nb.f) ∧ w'.cell? ⟨bn, on + ib * 10 + 2, none⟩ = some (.int .i64 nb.u) ∧ w'.cell? ⟨bn, on + ib * 10 + 3, none⟩ = some (.int .i64 nb.x.a) ∧ w'.cell? ⟨bn, on + ib * 10 + 4, none⟩ = some (.int .i64 nb.x.b) ∧ w'.cell? ⟨bn, on + ib * 10 + 5, none⟩ = some (.int .i64 nb.x.c) ∧ w'.cell? ⟨bn, on + ib * 10 + 6, none⟩ = some (.int .i64 nb.x.d) ∧ w'.cell? ⟨bn, on + ib * 10 + 7, none⟩ = some (.int .i64 nb.x.e) ∧ w'.cell? ⟨bn, on + ib * 10 + 8, none⟩ = some (.int .i64 nb.x.f) ∧ w'.cell? ⟨bn, on + ib * 10 + 9, none⟩ = some (.bool nb.tied)) (go_keep) (fail)
        all_goals
          clear a0 a1 a2 a3 a4 a5 a6 a7 a8 a9 d0 d1 d2 d3 d4 d5 d6 d7 d8 d9 n1 p0 p1 p8
          by_cases hv : na.v = nb.v
          · have e1 : (na.v == nb.v) = true := by rw [beq_iff_eq]; exact hv
            have hb := BAD.out (fun h => (HOK.out.1 h).1 hv)
            have HBB := Lib.hid hb
            clear hv hb
            go_wp2
            go_ret
            exact ⟨by rw [HBB.out] <;> rfl, (by repeat (first | with_reducible exact Ext.refl _ | with_reducible assumption | with_reducible apply Ext.alloc | with_reducible apply Ext.drew | (with_reducible refine Ext.setCell ?_ (by (try simp) <;> omega) _)))⟩
          · have e1 : (na.v == nb.v) = false := by rw [beq_eq_false_iff_ne]; exact hv
            by_cases hu : na.u ≤ nb.f
            · have hb := BAD.out (fun h => by have := (HOK.out.1 h).2; omega)
              have HBB := Lib.hid hb
              clear hv hb
              go_wp2
              go_ret
              exact ⟨by rw [HBB.out] <;> rfl, (by repeat (first | with_reducible exact Ext.refl _ | with_reducible assumption | with_reducible apply Ext.alloc | with_reducible apply Ext.drew | (with_reducible refine Ext.setCell ?_ (by (try simp) <;> omega) _)))⟩
            · have hg := HOK.out.2 ⟨hv, by omega⟩
              have HG := Lib.hid hg
              clear hv hg
              go_wp2
              go_roundw
              case rel => exact ⟨k + 1, by omega, by go_num, fun i hi => by
                rcases Nat.lt_or_ge i k with h | h
                · exact HA.out i h
                · obtain rfl : i = k := by omega
                  rw [HN.out]; exact HG.out, (by repeat (first | with_reducible exact Ext.refl _ | with_reducible assumption | with_reducible apply Ext.alloc | with_reducible apply Ext.drew | (with_reducible refine Ext.setCell ?_ (by (try simp) <;> omega) _)))⟩
              case measure => simp [intOf]; omega
    · obtain rfl : k = s.pairs.length := by omega
      have v1 := block_cell (block_ext X b0) 2 (.slice ap s.pairs.length cp) rfl
      have SX := (SP.ext XW).ext X
      obtain ⟨c, hc⟩ : ∃ c, decide (lexAll lexP s.pairs) = c := ⟨_, rfl⟩
      have hres : decide (prsOk s) = c := by
        rw [← hc]
        exact decide_eq_decide.2 ⟨fun h => h.2, fun h => ⟨HA.out, h⟩⟩
      have HR := Lib.hid hres; have HC := Lib.hid hc
      clear hres hc SN SP
      go_wp2_with fail
      refine (rispr_walk _ s.pairs _ SX).mono ?_
      rw [HC.out]
      rintro e w1 ⟨rfl, x1⟩
      go_wp2
      go_ret
      exact ⟨by rw [HR.out] <;> rfl, (XW.trans X).trans x1⟩
end Go.Proofs.YtgfaiihekibcbaaGreatDoor

/-
  Walk: score.Valid.
-/
set_option linter.unusedVariables false
namespace Go.Proofs.YtgfaiihekibcbaaGreatDoor
open Go.RowKit Go.Sx Go.Sx.Sz Go.Sx.Sc

def chk (s : Sc) : Nat → Prop
  | 0 => szOk' s
  | 1 => ntOk s
  | 2 => vcOk s
  | 3 => prsOk s
  | _ => cadOk s

set_option maxRecDepth 100000 in
set_option maxHeartbeats 4000000 in
theorem scvalid_walk (vn vp vc : Value) (s : Sc) (w : World) (S : ScR w vn vp vc s) : Calls Tryz.prog 15 #[.agg #[.int .i64 s.voices, vn, vp, vc]] w fun e w' => e = .returned (.bool (scB s)) ∧ Ext w w' := by
  obtain ⟨an, cn, rfl, -, -, hln⟩ := S.nt.len
  obtain ⟨ap, cp, rfl, -, -, hlp⟩ := S.pr.len
  obtain ⟨ac, cc, rfl, -, -, -⟩ := S.cd.len
  go_enter Tryz.func15, Tryz.ntmps15
  go_wp2
  have b0 : ((w.alloc (.cells #[.int .i64 s.voices, .slice an s.notes.length cn, .slice ap s.pairs.length cp, .slice ac s.cads.length cc] 26)).alloc (.cells #[.func (.func 29) #[] #[], .func (.func 30) #[] #[], .func (.func 31) #[] #[], .func (.func 32) #[] #[], .func (.func 33) #[] #[]] 29)).heap[w.heap.size]? = some (.cells #[.int .i64 s.voices, .slice an s.notes.length cn, .slice ap s.pairs.length cp, .slice ac s.cads.length cc] 26 (0, 0)) := block_alloc (block_new w _) _
  have b1 : ((w.alloc (.cells #[.int .i64 s.voices, .slice an s.notes.length cn, .slice ap s.pairs.length cp, .slice ac s.cads.length cc] 26)).alloc (.cells #[.func (.func 29) #[] #[], .func (.func 30) #[] #[], .func (.func 31) #[] #[], .func (.func 32) #[] #[], .func (.func 33) #[] #[]] 29)).heap[w.heap.size + 1]? = some (.cells #[.func (.func 29) #[] #[], .func (.func 30) #[] #[], .func (.func 31) #[] #[], .func (.func 32) #[] #[], .func (.func 33) #[] #[]] 29 (0, 0)) := block_at (by simp) _
  have XW : Ext w ((w.alloc (.cells #[.int .i64 s.voices, .slice an s.notes.length cn, .slice ap s.pairs.length cp, .slice ac s.cads.length cc] 26)).alloc (.cells #[.func (.func 29) #[] #[], .func (.func 30) #[] #[], .func (.func 31) #[] #[], .func (.func 32) #[] #[], .func (.func 33) #[] #[]] 29)) := (by repeat (first | with_reducible exact Ext.refl _ | with_reducible assumption | with_reducible apply Ext.alloc | with_reducible apply Ext.drew | (with_reducible refine Ext.setCell ?_ (by (try simp) <;> omega) _)))
  obtain ⟨B, hB⟩ : ∃ B, w.heap.size = B := ⟨_, rfl⟩
  obtain ⟨W, hW⟩ : ∃ W, (w.alloc (.cells #[.int .i64 s.voices, .slice an s.notes.length cn, .slice ap s.pairs.length cp, .slice ac s.cads.length cc] 26)).alloc (.cells #[.func (.func 29) #[] #[], .func (.func 30) #[] #[], .func (.func 31) #[] #[], .func (.func 32) #[] #[], .func (.func 33) #[] #[]] 29) = W := ⟨_, rfl⟩
  rw [hB] at b0 b1 ⊢
  rw [hW] at b0 b1 XW ⊢
  clear hB hW
  go_loopw [7] (fun i wr => ∃ k : Nat, k ≤ 5 ∧ i = .int .i64 k ∧ (∀ j, j < k → chk s j) ∧ Ext W wr) (fun i _ => 5 - (intOf i).toNat)
  case atStart => exact ⟨0, by omega, rfl, fun j h => by omega, Ext.refl _⟩
  case round =>
    obtain ⟨k, hk, rfl, hall, X⟩ := hrel
    have HA := Lib.hid hall
    have SR := (S.ext XW).ext X
    have s0 := block_cell (block_ext X b0) 0 (.int .i64 s.voices) rfl
    have s1 := block_cell (block_ext X b0) 1 (.slice an s.notes.length cn) rfl
    have s2 := block_cell (block_ext X b0) 2 (.slice ap s.pairs.length cp) rfl
    have s3 := block_cell (block_ext X b0) 3 (.slice ac s.cads.length cc) rfl
    have f0 := block_cell (block_ext X b1) 0 _ rfl
    have f1 := block_cell (block_ext X b1) 1 _ rfl
    have f2 := block_cell (block_ext X b1) 2 _ rfl
    have f3 := block_cell (block_ext X b1) 3 _ rfl
    have f4 := block_cell (block_ext X b1) 4 _ rfl
    obtain ⟨wo, rfl⟩ : ∃ wo : World, wo = wr := ⟨_, rfl⟩
    clear hall
    by_cases hlt : k < 5
    · clear hk
      obtain rfl | rfl | rfl | rfl | rfl : k = 0 ∨ k = 1 ∨ k = 2 ∨ k = 3 ∨ k = 4 := by omega
      all_goals clear hlt
      · -- check 0
        have CK := Lib.hid fun w' (x : Ext wo w') => sizes_walk _ _ _ s w' (SR.ext x)
        by_cases hc : szOk' s
        · have hd := decide_eq_true hc
          have HD := Lib.hid hd
          have HC := Lib.hid hc
          clear hd hc
          go_wp2_with fail
          refine (CK.out _ (by repeat (first | with_reducible exact Ext.refl _ | with_reducible assumption | with_reducible apply Ext.alloc | with_reducible apply Ext.drew | (with_reducible refine Ext.setCell ?_ (by (try simp) <;> omega) _)))).mono ?_
          rw [HD.out]
          rintro e w1 ⟨rfl, x1⟩
          have X1 : Ext W wo := X
          go_wp2
          go_roundw
          case rel => exact ⟨1, by omega, rfl, fun j hj => by
            rcases Nat.lt_or_ge j 0 with h | h
            · exact HA.out j h
            · obtain rfl : j = 0 := by omega
              exact HC.out, X.trans x1⟩
          case measure => simp [intOf]
        · have hd := decide_eq_false hc
          have hb : scB s = false := scB_false fun h => hc h.sz
          have HD := Lib.hid hd
          have HB := Lib.hid hb
          clear hd hc hb
          go_wp2_with fail
          refine (CK.out _ (by repeat (first | with_reducible exact Ext.refl _ | with_reducible assumption | with_reducible apply Ext.alloc | with_reducible apply Ext.drew | (with_reducible refine Ext.setCell ?_ (by (try simp) <;> omega) _)))).mono ?_
          rw [HD.out]
          rintro e w1 ⟨rfl, x1⟩
          go_wp2
          go_ret
          exact ⟨by rw [HB.out] <;> rfl, (XW.trans X).trans x1⟩
      · -- check 1
        have CK := Lib.hid fun w' (x : Ext wo w') => notes_walk _ _ _ s w' (SR.ext x)
        by_cases hc : ntOk s
        · have hd := decide_eq_true hc
          have HD := Lib.hid hd
          have HC := Lib.hid hc
          clear hd hc
          go_wp2_with fail
          refine (CK.out _ (by repeat (first | with_reducible exact Ext.refl _ | with_reducible assumption | with_reducible apply Ext.alloc | with_reducible apply Ext.drew | (with_reducible refine Ext.setCell ?_ (by (try simp) <;> omega) _)))).mono ?_
          rw [HD.out]
          rintro e w1 ⟨rfl, x1⟩
          have X1 : Ext W wo := X
          go_wp2
          go_roundw
          case rel => exact ⟨2, by omega, rfl, fun j hj => by
            rcases Nat.lt_or_ge j 1 with h | h
            · exact HA.out j h
            · obtain rfl : j = 1 := by omega
              exact HC.out, X.trans x1⟩
          case measure => simp [intOf]
        · have hd := decide_eq_false hc
          have hb : scB s = false := scB_false fun h => hc h.nt
          have HD := Lib.hid hd
          have HB := Lib.hid hb
          clear hd hc hb
          go_wp2_with fail
          refine (CK.out _ (by repeat (first | with_reducible exact Ext.refl _ | with_reducible assumption | with_reducible apply Ext.alloc | with_reducible apply Ext.drew | (with_reducible refine Ext.setCell ?_ (by (try simp) <;> omega) _)))).mono ?_
          rw [HD.out]
          rintro e w1 ⟨rfl, x1⟩
          go_wp2
          go_ret
          exact ⟨by rw [HB.out] <;> rfl, (XW.trans X).trans x1⟩
      · -- check 2
        have CK := Lib.hid fun w' (x : Ext wo w') => voices_walk _ _ _ s (HA.out 0 (by omega)).1.2 (HA.out 1 (by omega)) w' (SR.ext x)
        by_cases hc : vcOk s
        · have hd := decide_eq_true hc
          have HD := Lib.hid hd
          have HC := Lib.hid hc
          clear hd hc
          go_wp2_with fail
          refine (CK.out _ (by repeat (first | with_reducible exact Ext.refl _ | with_reducible assumption | with_reducible apply Ext.alloc | with_reducible apply Ext.drew | (with_reducible refine Ext.setCell ?_ (by (try simp) <;> omega) _)))).mono ?_
          rw [HD.out]
          rintro e w1 ⟨rfl, x1⟩
          have X1 : Ext W wo := X
          go_wp2
          go_roundw
          case rel => exact ⟨3, by omega, rfl, fun j hj => by
            rcases Nat.lt_or_ge j 2 with h | h
            · exact HA.out j h
            · obtain rfl : j = 2 := by omega
              exact HC.out, X.trans x1⟩
          case measure => simp [intOf]
        · have hd := decide_eq_false hc
          have hb : scB s = false := scB_false fun h => hc h.vc
          have HD := Lib.hid hd
          have HB := Lib.hid hb
          clear hd hc hb
          go_wp2_with fail
          refine (CK.out _ (by repeat (first | with_reducible exact Ext.refl _ | with_reducible assumption | with_reducible apply Ext.alloc | with_reducible apply Ext.drew | (with_reducible refine Ext.setCell ?_ (by (try simp) <;> omega) _)))).mono ?_
          rw [HD.out]
          rintro e w1 ⟨rfl, x1⟩
          go_wp2
          go_ret
          exact ⟨by rw [HB.out] <;> rfl, (XW.trans X).trans x1⟩
      · -- check 3
        have CK := Lib.hid fun w' (x : Ext wo w') => pairs_walk _ _ _ s w' (SR.ext x)
        by_cases hc : prsOk s
        · have hd := decide_eq_true hc
          have HD := Lib.hid hd
          have HC := Lib.hid hc
          clear hd hc
          go_wp2_with fail
          refine (CK.out _ (by repeat (first | with_reducible exact Ext.refl _ | with_reducible assumption | with_reducible apply Ext.alloc | with_reducible apply Ext.drew | (with_reducible refine Ext.setCell ?_ (by (try simp) <;> omega) _)))).mono ?_
          rw [HD.out]
          rintro e w1 ⟨rfl, x1⟩
          have X1 : Ext W wo := X
          go_wp2
          go_roundw
          case rel => exact ⟨4, by omega, rfl, fun j hj => by
            rcases Nat.lt_or_ge j 3 with h | h
            · exact HA.out j h
            · obtain rfl : j = 3 := by omega
              exact HC.out, X.trans x1⟩
          case measure => simp [intOf]
        · have hd := decide_eq_false hc
          have hb : scB s = false := scB_false fun h => hc h.pr
          have HD := Lib.hid hd
          have HB := Lib.hid hb
          clear hd hc hb
          go_wp2_with fail
          refine (CK.out _ (by repeat (first | with_reducible exact Ext.refl _ | with_reducible assumption | with_reducible apply Ext.alloc | with_reducible apply Ext.drew | (with_reducible refine Ext.setCell ?_ (by (try simp) <;> omega) _)))).mono ?_
          rw [HD.out]
          rintro e w1 ⟨rfl, x1⟩
          go_wp2
          go_ret
          exact ⟨by rw [HB.out] <;> rfl, (XW.trans X).trans x1⟩
      · -- check 4
        have CK := Lib.hid fun w' (x : Ext wo w') => cads_walk _ _ _ s w' (SR.ext x)
        by_cases hc : cadOk s
        · have hd := decide_eq_true hc
          have HD := Lib.hid hd
          have HC := Lib.hid hc
          clear hd hc
          go_wp2_with fail
          refine (CK.out _ (by repeat (first | with_reducible exact Ext.refl _ | with_reducible assumption | with_reducible apply Ext.alloc | with_reducible apply Ext.drew | (with_reducible refine Ext.setCell ?_ (by (try simp) <;> omega) _)))).mono ?_
          rw [HD.out]
          rintro e w1 ⟨rfl, x1⟩
          have X1 : Ext W wo := X
          go_wp2
          go_roundw
          case rel => exact ⟨5, by omega, rfl, fun j hj => by
            rcases Nat.lt_or_ge j 4 with h | h
            · exact HA.out j h
            · obtain rfl : j = 4 := by omega
              exact HC.out, X.trans x1⟩
          case measure => simp [intOf]
        · have hd := decide_eq_false hc
          have hb : scB s = false := scB_false fun h => hc h.cd
          have HD := Lib.hid hd
          have HB := Lib.hid hb
          clear hd hc hb
          go_wp2_with fail
          refine (CK.out _ (by repeat (first | with_reducible exact Ext.refl _ | with_reducible assumption | with_reducible apply Ext.alloc | with_reducible apply Ext.drew | (with_reducible refine Ext.setCell ?_ (by (try simp) <;> omega) _)))).mono ?_
          rw [HD.out]
          rintro e w1 ⟨rfl, x1⟩
          go_wp2
          go_ret
          exact ⟨by rw [HB.out] <;> rfl, (XW.trans X).trans x1⟩
    · obtain rfl : k = 5 := by omega
      have hg : scB s = true := scB_iff.2 ⟨HA.out 0 (by omega), HA.out 1 (by omega), HA.out 2 (by omega), HA.out 3 (by omega), HA.out 4 (by omega)⟩
      have HG := Lib.hid hg
      clear hg
      go_wp2
      go_ret
      exact ⟨by rw [HG.out] <;> rfl, XW.trans X⟩
end Go.Proofs.YtgfaiihekibcbaaGreatDoor

/-
  Walks: slices.BinarySearch at integers, score.section.
-/
set_option linter.unusedVariables false
namespace Go.Proofs.YtgfaiihekibcbaaGreatDoor
open Go.RowKit Go.Sx Go.Sx.Sz Go.Sx.Sc

set_option maxRecDepth 100000 in
theorem count_split {α : Type} {l : List α} {p : α → Bool} {i : Nat} (hi : i ≤ l.length) (h1 : ∀ q (h : q < l.length), q < i → p l[q] = true) (h2 : ∀ q (h : q < l.length), i ≤ q → p l[q] = false) : l.countP p = i := by
  rw [← List.take_append_drop i l, List.countP_append]
  have e1 : (l.take i).countP p = i := by
    rw [List.countP_eq_length.2, List.length_take, Nat.min_eq_left hi]
    intro x hx
    obtain ⟨q, hq, rfl⟩ := List.getElem_of_mem hx
    rw [List.length_take] at hq
    rw [List.getElem_take]
    exact h1 q (by omega) (by omega)
  have e2 : (l.drop i).countP p = 0 := by
    rw [List.countP_eq_zero]
    intro x hx
    obtain ⟨q, hq, rfl⟩ := List.getElem_of_mem hx
    rw [List.length_drop] at hq
    rw [List.getElem_drop, h2 (i + q) (by omega) (by omega)]
    simp
  rw [e1, e2]; rfl
def cntLt (l : List Int) (t : Int) : Nat := l.countP fun x => decide (x < t)
set_option maxRecDepth 100000 in
theorem rise_lt {l : List Int} (h : lexAll ltZ l) : ∀ {j i : Nat} (hj : j < l.length) (hij : i < j), l[i] < l[j]
  | 0, i, _, hij => by omega
  | j + 1, i, hj, hij => by
    have h1 := h j (by omega)
    rw [getD_eq' (by omega), getD_eq' hj] at h1
    by_cases e : i = j
    · subst e; exact h1
    · exact Int.lt_trans (rise_lt h (show j < l.length by omega) (by omega)) h1

set_option maxRecDepth 100000 in
theorem sisnan_walk (x : Int) (w : World) : Calls Tryz.prog 96 #[.int .i64 x] w fun e w' => e = .returned (.bool false) ∧ Ext w w' := by
  go_enter Tryz.func96, Tryz.ntmps96
  go_wp2
  go_ret
  exact ⟨by first | rfl | simp, Ext.refl _⟩

set_option maxRecDepth 100000 in
set_option maxHeartbeats 2000000 in
theorem bsearch_walk (v : Value) (l : List Int) (t : Int) (hr : lexAll ltZ l) (w : World) (S : Sl w 1 encZ v l) :
    Calls Tryz.prog 78 #[v, .int .i64 t] w fun e w' => e = .returned (.tuple #[.int .i64 (cntLt l t), .bool (decide (t ∈ l))]) ∧ Ext w w' := by
  obtain ⟨a?, cap, rfl, -, -, h3⟩ := S.len
  have HR := Lib.hid hr
  clear hr
  go_enter Tryz.func78, Tryz.ntmps78
  go_wp2
  go_loopw [7, 8] (fun a b wr => ∃ i j : Nat, a = .int .i64 i ∧ b = .int .i64 j ∧ i ≤ j ∧ j ≤ l.length ∧ (∀ q (h : q < l.length), q < i → l[q] < t) ∧ (∀ q (h : q < l.length), j ≤ q → ¬ l[q] < t) ∧ Ext w wr) (fun a b _ => (intOf b - intOf a).toNat)
  case atStart => exact ⟨0, l.length, rfl, rfl, by omega, by omega, fun q h1 h2 => by omega, fun q h1 h2 => by omega, Ext.refl _⟩
  case round =>
    obtain ⟨i, j, rfl, rfl, hij, hj, hlo, hhi, X⟩ := hrel
    have HLO := Lib.hid hlo; have HHI := Lib.hid hhi
    clear hlo hhi
    by_cases hlt : i < j
    · obtain ⟨m, hm⟩ : ∃ m, (i + j) / 2 = m := ⟨_, rfl⟩
      have m1 : i ≤ m := by omega
      have m2 : m < j := by omega
      obtain ⟨b, o, rfl, q0⟩ := Sl.num (S.ext X) m (by omega)
      obtain ⟨x, hx⟩ : ∃ x, l[m] = x := ⟨_, rfl⟩
      rw [hx] at q0
      have HX := Lib.hid hx
      clear hx S
      have em : ((i : Int) + (j : Int)) / 2 = (m : Int) := by omega
      obtain ⟨wo, rfl⟩ : ∃ wo : World, wo = wr := ⟨_, rfl⟩
      by_cases hxt : x < t
      · have HT := Lib.hid hxt
        go_wp2_with fail
        refine (less_walk x t _).mono ?_
        rw [decide_eq_true HT.out]
        rintro e w1 ⟨rfl, x1⟩
        clear q0
        go_wp2
        go_roundw
        case rel => exact ⟨m + 1, j, by go_num, rfl, by omega, hj, fun q h1 h2 => by
          rcases Nat.lt_or_ge q m with h | h
          · have h9 := rise_lt HR.out (show m < l.length by omega) h
            rw [HX.out] at h9
            have := HT.out; omega
          · obtain rfl : q = m := by omega
            rw [HX.out]; exact HT.out, fun q h1 h2 => Int.not_lt.2 (HHI.out q h1 h2), X.trans x1⟩
        case measure => simp [intOf]; omega
      · have HT := Lib.hid hxt
        go_wp2_with fail
        refine (less_walk x t _).mono ?_
        rw [decide_eq_false (Int.not_lt.2 HT.out)]
        rintro e w1 ⟨rfl, x1⟩
        clear q0
        go_wp2
        go_roundw
        case rel => exact ⟨i, m, rfl, by go_num, m1, by omega, HLO.out, fun q h1 h2 => by
          rcases Nat.lt_or_ge m q with h | h
          · have h9 := rise_lt HR.out h1 h
            rw [HX.out] at h9
            have := HT.out; omega
          · obtain rfl : q = m := by omega
            rw [HX.out]; exact Int.not_lt.2 HT.out, X.trans x1⟩
        case measure => simp [intOf]; omega
    · obtain rfl : i = j := by omega
      have hcnt : cntLt l t = i := count_split hj (fun q h1 h2 => decide_eq_true (HLO.out q h1 h2)) (fun q h1 h2 => decide_eq_false (HHI.out q h1 h2))
      have HC := Lib.hid hcnt
      clear hcnt
      by_cases hin : i < l.length
      · obtain ⟨b, o, rfl, q0⟩ := Sl.num (S.ext X) i hin
        have hge := HHI.out i hin (Nat.le_refl _)
        have hmem : t ∈ l ↔ l[i] = t := by
          constructor
          · intro h
            obtain ⟨q, hq, e⟩ := List.getElem_of_mem h
            rcases Nat.lt_trichotomy q i with k | k | k
            · have := HLO.out q hq k; omega
            · subst k; exact e
            · have := rise_lt HR.out hq k; omega
          · intro h; rw [← h]; exact List.getElem_mem hin
        obtain ⟨x, hx⟩ : ∃ x, l[i] = x := ⟨_, rfl⟩
        rw [hx] at q0 hmem
        have HM := Lib.hid hmem
        clear hx hmem hge S
        by_cases hxt : x = t
        · have e1 : (x == t) = true := by rw [beq_iff_eq]; exact hxt
          have HR2 := Lib.hid (decide_eq_true (HM.out.2 hxt))
          clear hxt
          go_wp2
          go_ret2
          exact ⟨by rw [HC.out, HR2.out] <;> rfl, X⟩
        · have e1 : (x == t) = false := by rw [beq_eq_false_iff_ne]; exact hxt
          have HR2 := Lib.hid (decide_eq_false (fun h => hxt (HM.out.1 h)))
          clear hxt
          go_wp2_with fail
          refine (sisnan_walk x _).mono ?_
          rintro e w1 ⟨rfl, x1⟩
          go_wp2
          go_ret2
          exact ⟨by rw [HC.out, HR2.out] <;> rfl, X.trans x1⟩
      · have hno : ¬ t ∈ l := fun h => by
          obtain ⟨q, hq, e⟩ := List.getElem_of_mem h
          have := HLO.out q hq (by omega); omega
        have HR2 := Lib.hid (decide_eq_false hno)
        clear hno S
        go_wp2
        go_ret2
        exact ⟨by rw [HC.out, HR2.out] <;> rfl, X⟩

end Go.Proofs.YtgfaiihekibcbaaGreatDoor

/-
  Open arguments of the laws on scores.
-/
namespace Go.Proofs.YtgfaiihekibcbaaGreatDoor
open Go.RowKit Go.Sx Go.Sx.Sz Go.Sx.Sc Go.ChangeShapes Go.WideShapes Go.ChangeAt

section
variable {H : Type} {enc : TypeId × Value → H} {W : World} {base : Nat} {v : Value} {d : DataW H}
theorem el_vec6 : El enc Tryz.prog W 32 6 V6.list (fun v => ∀ k, k < 6 → Fits .i64 (v.get k)) := El.v6 Tryz.underlying32 Tryz.underlying3 (by kernel_rfl) (by kernel_rfl)
def ntFits (n : Nt) : Prop := Fits .i64 n.v ∧ Fits .i64 n.f ∧ Fits .i64 n.u
theorem el_note : El enc Tryz.prog W 69 10 encN ntFits :=
  (El.struct Tryz.underlying69 (by kernel_rfl) (Fs.cons (El.int Tryz.underlying3) (by kernel_rfl) rfl (Fs.cons (El.int Tryz.underlying3) (by kernel_rfl) rfl (Fs.cons (El.int Tryz.underlying3) (by kernel_rfl) rfl (Fs.cons el_vec6 (by kernel_rfl) rfl (Fs.cons (El.bool Tryz.underlying4) (by kernel_rfl) rfl (Fs.nil _))))))).map
    (fun a => (⟨a.1, a.2.1, a.2.2.1, a.2.2.2.1, a.2.2.2.2.1⟩ : Nt)) (fun _ => rfl) (fun _ h => ⟨h.1, h.2.1, h.2.2.1⟩)
theorem el_pair : El enc Tryz.prog W 48 9 encP (fun _ => True) :=
  (El.struct Tryz.underlying48 (by kernel_rfl) (Fs.cons (El.int Tryz.underlying3) (by kernel_rfl) rfl (Fs.cons (El.int Tryz.underlying3) (by kernel_rfl) rfl (Fs.cons el_vec6 (by kernel_rfl) rfl (Fs.cons (El.int Tryz.underlying3) (by kernel_rfl) rfl (Fs.nil _)))))).map
    (fun a => (⟨a.1, a.2.1, a.2.2.1, a.2.2.2.1⟩ : Pr)) (fun _ => rfl) (fun _ _ => trivial)
set_option maxRecDepth 100000 in
theorem arg_score (h : Arg enc Tryz.prog W base 26 v d) : ∃ (s : Sc) (vn vp vc : Value), v = .agg #[.int .i64 s.voices, vn, vp, vc] ∧ ScR W vn vp vc s := by
  have b1 : Tryz.prog.bytesOf 69 = 80 := by kernel_rfl
  have b2 : Tryz.prog.bytesOf 48 = 72 := by kernel_rfl
  have b3 : Tryz.prog.bytesOf 3 = 8 := by kernel_rfl
  obtain ⟨a, rfl, h1, h2, h3, h4, -⟩ := Arg.struct (sz := 4) Tryz.underlying26 (El.struct Tryz.underlying26 (by kernel_rfl) (Fs.cons (El.int Tryz.underlying3) (by kernel_rfl) rfl
    (Fs.cons (El.slice (sz := 10) Tryz.underlying22 (by kernel_rfl) (by rw [b1]; decide) el_note) (by kernel_rfl) rfl
    (Fs.cons (El.slice (sz := 9) Tryz.underlying23 (by kernel_rfl) (by rw [b2]; decide) el_pair) (by kernel_rfl) rfl
    (Fs.cons (El.slice (sz := 1) (enc := encZ) (ok := Fits .i64) Tryz.underlying24 (by kernel_rfl) (by rw [b3]; decide) (El.int Tryz.underlying3)) (by kernel_rfl) rfl (Fs.nil _)))))) h
  exact ⟨⟨a.1, a.2.1.2, a.2.2.1.2, a.2.2.2.1.2⟩, a.2.1.1, a.2.2.1.1, a.2.2.2.1.1, rfl, h2.1, h3.1, h4.1⟩
end
end Go.Proofs.YtgfaiihekibcbaaGreatDoor

/-
  Open arguments: rows of sizes, vectors and integers; the boxed score.
-/
set_option linter.unusedVariables false
namespace Go.Proofs.YtgfaiihekibcbaaGreatDoor
open Go.RowKit Go.Sx Go.Sx.Sz Go.Sx.Sc Go.ChangeShapes Go.WideShapes Go.ChangeAt

section
variable {H : Type} {enc : TypeId × Value → H} {W : World} {base : Nat} {v : Value} {d : DataW H}
theorem arg_vecs (h : Arg enc Tryz.prog W base 27 v d) : ∃ l, Sl W 6 V6.list v l ∧ l.length * 48 ≤ 140737488351232 := by
  have hb : Tryz.prog.bytesOf 32 = 48 := by kernel_rfl
  obtain ⟨l, a, _, c⟩ := Arg.slice (sz := 6) (enc := V6.list) Tryz.underlying27 (by kernel_rfl) (by rw [hb]; decide) el_vec6 h
  rw [hb] at c
  exact ⟨l, a, c⟩
end

/-- The boxed score in all later worlds. -/
def BoxS (W : World) (B : Nat) (s : Sc) (an ap ac : Option Addr) (cn cp cc : Nat) : Prop :=
  ∀ w', Ext W w' → w'.cell? ⟨B, 0, none⟩ = some (.int .i64 s.voices) ∧ w'.cell? ⟨B, 1, none⟩ = some (.slice an s.notes.length cn) ∧ w'.cell? ⟨B, 2, none⟩ = some (.slice ap s.pairs.length cp) ∧ w'.cell? ⟨B, 3, none⟩ = some (.slice ac s.cads.length cc)
theorem boxS {W : World} {B : Nat} {s : Sc} {an ap ac : Option Addr} {cn cp cc : Nat} (b : W.heap[B]? = some (.cells #[.int .i64 s.voices, .slice an s.notes.length cn, .slice ap s.pairs.length cp, .slice ac s.cads.length cc] 26 (0, 0))) : BoxS W B s an ap ac cn cp cc := fun w' x =>
  ⟨x.cell (block_cell b 0 _ rfl), x.cell (block_cell b 1 _ rfl), x.cell (block_cell b 2 _ rfl), x.cell (block_cell b 3 _ rfl)⟩
end Go.Proofs.YtgfaiihekibcbaaGreatDoor
