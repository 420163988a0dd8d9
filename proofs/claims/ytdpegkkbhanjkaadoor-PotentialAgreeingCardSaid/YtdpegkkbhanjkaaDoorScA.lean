/-
  Scores as the program lays them; walks: score.bounded, cmp.Compare, cmp.Or, the two comparisons, rising.
-/
import Derived.Test.YtdpegkkbhanjkaaDoorLibB
import Derived.BigQuiet
set_option linter.unusedVariables false
namespace Go.Proofs.YtdpegkkbhanjkaaDoor
open Go.RowKit Go.Sx Go.Sx.Sz Go.Sx.Sc

def encN (n : Nt) : List Value := [.int .i64 n.v, .int .i64 n.f, .int .i64 n.u, .int .i64 n.x.a, .int .i64 n.x.b, .int .i64 n.x.c, .int .i64 n.x.d, .int .i64 n.x.e, .int .i64 n.x.f, .bool n.tied]
def encP (p : Pr) : List Value := [.int .i64 p.a, .int .i64 p.b, .int .i64 p.want.a, .int .i64 p.want.b, .int .i64 p.want.c, .int .i64 p.want.d, .int .i64 p.want.e, .int .i64 p.want.f, .int .i64 p.bound]

/-- The cells of a note. -/
structure NtAt (w : World) (b o : Nat) (n : Nt) : Prop where
  c0 : w.cell? ⟨b, o, none⟩ = some (.int .i64 n.v)
  c1 : w.cell? ⟨b, o + 1, none⟩ = some (.int .i64 n.f)
  c2 : w.cell? ⟨b, o + 2, none⟩ = some (.int .i64 n.u)
  c3 : w.cell? ⟨b, o + 3, none⟩ = some (.int .i64 n.x.a)
  c4 : w.cell? ⟨b, o + 4, none⟩ = some (.int .i64 n.x.b)
  c5 : w.cell? ⟨b, o + 5, none⟩ = some (.int .i64 n.x.c)
  c6 : w.cell? ⟨b, o + 6, none⟩ = some (.int .i64 n.x.d)
  c7 : w.cell? ⟨b, o + 7, none⟩ = some (.int .i64 n.x.e)
  c8 : w.cell? ⟨b, o + 8, none⟩ = some (.int .i64 n.x.f)
  c9 : w.cell? ⟨b, o + 9, none⟩ = some (.bool n.tied)
set_option maxRecDepth 100000 in
theorem NtAt.ext {w w' : World} {b o : Nat} {n : Nt} (h : NtAt w b o n) (x : Ext w w') : NtAt w' b o n := ⟨x.cell h.c0, x.cell h.c1, x.cell h.c2, x.cell h.c3, x.cell h.c4, x.cell h.c5, x.cell h.c6, x.cell h.c7, x.cell h.c8, x.cell h.c9⟩
set_option maxRecDepth 100000 in
theorem Sl.nt {w : World} {a? : Option Addr} {n cap : Nat} {xs : List Nt} (h : Sl w 10 encN (.slice a? n cap) xs) (k : Nat) (hk : k < xs.length) : ∃ b o, a? = some ⟨b, o, none⟩ ∧ NtAt w b (o + k * 10) xs[k] := by
  obtain ⟨b, o, e, hc⟩ := h.at (by omega) k hk
  exact ⟨b, o, e, hc 0 (by omega), hc 1 (by omega), hc 2 (by omega), hc 3 (by omega), hc 4 (by omega), hc 5 (by omega), hc 6 (by omega), hc 7 (by omega), hc 8 (by omega), hc 9 (by omega)⟩
/-- The cells of a pair. -/
structure PrAt (w : World) (b o : Nat) (p : Pr) : Prop where
  c0 : w.cell? ⟨b, o, none⟩ = some (.int .i64 p.a)
  c1 : w.cell? ⟨b, o + 1, none⟩ = some (.int .i64 p.b)
  c2 : w.cell? ⟨b, o + 2, none⟩ = some (.int .i64 p.want.a)
  c3 : w.cell? ⟨b, o + 3, none⟩ = some (.int .i64 p.want.b)
  c4 : w.cell? ⟨b, o + 4, none⟩ = some (.int .i64 p.want.c)
  c5 : w.cell? ⟨b, o + 5, none⟩ = some (.int .i64 p.want.d)
  c6 : w.cell? ⟨b, o + 6, none⟩ = some (.int .i64 p.want.e)
  c7 : w.cell? ⟨b, o + 7, none⟩ = some (.int .i64 p.want.f)
  c8 : w.cell? ⟨b, o + 8, none⟩ = some (.int .i64 p.bound)
set_option maxRecDepth 100000 in
theorem PrAt.ext {w w' : World} {b o : Nat} {n : Pr} (h : PrAt w b o n) (x : Ext w w') : PrAt w' b o n := ⟨x.cell h.c0, x.cell h.c1, x.cell h.c2, x.cell h.c3, x.cell h.c4, x.cell h.c5, x.cell h.c6, x.cell h.c7, x.cell h.c8⟩
set_option maxRecDepth 100000 in
theorem Sl.pr {w : World} {a? : Option Addr} {n cap : Nat} {xs : List Pr} (h : Sl w 9 encP (.slice a? n cap) xs) (k : Nat) (hk : k < xs.length) : ∃ b o, a? = some ⟨b, o, none⟩ ∧ PrAt w b (o + k * 9) xs[k] := by
  obtain ⟨b, o, e, hc⟩ := h.at (by omega) k hk
  exact ⟨b, o, e, hc 0 (by omega), hc 1 (by omega), hc 2 (by omega), hc 3 (by omega), hc 4 (by omega), hc 5 (by omega), hc 6 (by omega), hc 7 (by omega), hc 8 (by omega)⟩

/-- What a score's slices read as. -/
structure ScR (w : World) (vn vp vc : Value) (s : Sc) : Prop where
  nt : Sl w 10 encN vn s.notes
  pr : Sl w 9 encP vp s.pairs
  cd : Sl w 1 encZ vc s.cads
set_option maxRecDepth 100000 in
theorem ScR.ext {w w' : World} {vn vp vc : Value} {s : Sc} (h : ScR w vn vp vc s) (x : Ext w w') : ScR w' vn vp vc s := ⟨h.nt.ext x, h.pr.ext x, h.cd.ext x⟩

set_option maxRecDepth 100000 in
set_option maxHeartbeats 1000000 in
theorem bounded_walk (v : V6) (B : Int) (h0 : 0 ≤ B) (h1 : B ≤ 1000000) (w : World) : Calls Tryd.prog 69 #[.agg #[.int .i64 v.a, .int .i64 v.b, .int .i64 v.c, .int .i64 v.d, .int .i64 v.e, .int .i64 v.f], .int .i64 B] w fun e w' => e = .returned (.bool (within v B)) ∧ Ext w w' := by
  have ix := fun (k : Nat) (hk : k < 6) (w : World) => run_index_v6 (P := Tryd.prog) (t := 41) Tryd.underlying41 Tryd.underlying3 (by kernel_rfl) v hk w
  go_enter Tryd.func69, Tryd.ntmps69
  go_wp2
  go_loop [8] (fun i => ∃ k : Nat, k ≤ 6 ∧ i = .int .i64 k ∧ withinK v B k = true) (fun i => 6 - (intOf i).toNat)
  case atStart => exact ⟨0, by omega, rfl, rfl⟩
  case round =>
    obtain ⟨k, hk, rfl, hw⟩ := hrel
    have HW := Lib.hid hw
    clear hw
    by_cases hlt : k < 6
    · have hx := ix k hlt
      clear ix
      by_cases hb : -B ≤ v.get k
      · by_cases hc : v.get k ≤ B
        · go_wp2
          go_round
          case rel => exact ⟨k + 1, by omega, by go_num, by simp [withinK, HW.out, hb, hc]⟩
          case measure => simp [intOf]; omega
        · go_wp2
          go_ret
          exact ⟨by rw [withinK_false hlt (by omega)] <;> rfl, (by repeat (first | with_reducible exact Ext.refl _ | with_reducible assumption | with_reducible apply Ext.alloc | with_reducible apply Ext.drew | (with_reducible refine Ext.setCell ?_ (by (try simp) <;> omega) _)))⟩
      · go_wp2
        go_ret
        exact ⟨by rw [withinK_false hlt (by omega)] <;> rfl, (by repeat (first | with_reducible exact Ext.refl _ | with_reducible assumption | with_reducible apply Ext.alloc | with_reducible apply Ext.drew | (with_reducible refine Ext.setCell ?_ (by (try simp) <;> omega) _)))⟩
    · obtain rfl : k = 6 := by omega
      clear ix
      go_wp2
      go_ret
      exact ⟨by rw [show within v B = true from HW.out] <;> rfl, (by repeat (first | with_reducible exact Ext.refl _ | with_reducible assumption | with_reducible apply Ext.alloc | with_reducible apply Ext.drew | (with_reducible refine Ext.setCell ?_ (by (try simp) <;> omega) _)))⟩

def cmpZ (x y : Int) : Int := if x < y then -1 else if y < x then 1 else 0
set_option maxRecDepth 100000 in
theorem compare_walk (x y : Int) (w : World) : Calls Tryd.prog 73 #[.int .i64 x, .int .i64 y] w fun e w' => e = .returned (.int .i64 (cmpZ x y)) ∧ Ext w w' := by
  rcases Int.lt_trichotomy x y with h | h | h
  · have hc : cmpZ x y = -1 := if_pos h
    rw [hc]
    clear hc
    go_enter Tryd.func73, Tryd.ntmps73
    go_wp2_with fail
    refine (isnan_walk x _).mono ?_
    rintro e w1 ⟨rfl, x1⟩
    go_wp2_with fail
    refine (isnan_walk y _).mono ?_
    rintro e w2 ⟨rfl, x2⟩
    go_wp2
    go_ret
    exact ⟨rfl, x1.trans x2⟩
  · subst h
    have hc : cmpZ x x = 0 := by unfold cmpZ; rw [if_neg (by omega), if_neg (by omega)]
    rw [hc]
    clear hc
    have h1 : ¬ x < x := by omega
    go_enter Tryd.func73, Tryd.ntmps73
    go_wp2_with fail
    refine (isnan_walk x _).mono ?_
    rintro e w1 ⟨rfl, x1⟩
    go_wp2_with fail
    refine (isnan_walk x _).mono ?_
    rintro e w2 ⟨rfl, x2⟩
    go_wp2
    go_ret
    exact ⟨rfl, x1.trans x2⟩
  · have hc : cmpZ x y = 1 := by unfold cmpZ; rw [if_neg (by omega), if_pos h]
    rw [hc]
    clear hc
    have h1 : ¬ x < y := by omega
    go_enter Tryd.func73, Tryd.ntmps73
    go_wp2_with fail
    refine (isnan_walk x _).mono ?_
    rintro e w1 ⟨rfl, x1⟩
    go_wp2_with fail
    refine (isnan_walk y _).mono ?_
    rintro e w2 ⟨rfl, x2⟩
    go_wp2
    go_ret
    exact ⟨rfl, x1.trans x2⟩

def firstZ : List Int → Int
  | [] => 0
  | x :: l => if x = 0 then firstZ l else x
set_option maxRecDepth 100000 in
theorem firstZ_drop {l : List Int} {k : Nat} (hk : k < l.length) (h : l[k] = 0) : firstZ (l.drop k) = firstZ (l.drop (k + 1)) := by
  rw [List.drop_eq_getElem_cons hk, firstZ, if_pos h]
set_option maxRecDepth 100000 in
theorem firstZ_hit {l : List Int} {k : Nat} (hk : k < l.length) (h : l[k] ≠ 0) : firstZ (l.drop k) = l[k] := by
  rw [List.drop_eq_getElem_cons hk, firstZ, if_neg h]
set_option maxRecDepth 100000 in
set_option maxHeartbeats 1000000 in
theorem or_walk (v : Value) (l : List Int) (w : World) (S : Sl w 1 encZ v l) : Calls Tryd.prog 72 #[v] w fun e w' => e = .returned (.int .i64 (firstZ l)) ∧ Ext w w' := by
  obtain ⟨a?, cap, rfl, -, -, h3⟩ := S.len
  go_enter Tryd.func72, Tryd.ntmps72
  go_wp2
  go_loopw [8] (fun i wr => ∃ k : Nat, k ≤ l.length ∧ i = .int .i64 k ∧ firstZ (l.drop k) = firstZ l ∧ Ext w wr) (fun i _ => l.length - (intOf i).toNat)
  case atStart => exact ⟨0, by omega, rfl, rfl, Ext.refl _⟩
  case round =>
    obtain ⟨k, hk, rfl, hf, X⟩ := hrel
    have HF := Lib.hid hf
    clear hf
    by_cases hlt : k < l.length
    · obtain ⟨b, o, rfl, q0⟩ := Sl.num (S.ext X) k hlt
      have hd := @firstZ_drop l k hlt
      have hh := @firstZ_hit l k hlt
      obtain ⟨x, hx⟩ : ∃ x, l[k] = x := ⟨_, rfl⟩
      rw [hx] at q0 hd hh
      have HD := Lib.hid hd; have HH := Lib.hid hh
      clear hd hh hx S
      by_cases hz : x = 0
      · have hz' : (x != 0) = false := by rw [hz]; rfl
        have HZ := Lib.hid hz
        clear hz
        go_wp2
        go_roundw
        case rel => exact ⟨k + 1, by omega, by go_num, by rw [← HF.out, HD.out HZ.out], X⟩
        case measure => simp [intOf]; omega
      · have hz' : (x != 0) = true := by rw [bne_iff_ne]; exact hz
        have HZ := Lib.hid hz
        clear hz
        go_wp2
        go_ret
        exact ⟨by rw [← HF.out, HH.out HZ.out] <;> rfl, X⟩
    · obtain rfl : k = l.length := by omega
      rw [List.drop_length] at HF
      clear S
      go_wp2
      go_ret
      exact ⟨by rw [← HF.out] <;> rfl, X⟩

/-- The order of two notes, of two pairs. -/
def cmpNt (a b : Nt) : Int := firstZ [cmpZ a.f b.f, cmpZ a.v b.v]
def cmpPr (a b : Pr) : Int := firstZ [cmpZ a.a b.a, cmpZ a.b b.b]
set_option maxRecDepth 100000 in
theorem cmpNt_iff {a b : Nt} : ¬ 0 ≤ cmpNt a b ↔ lexN a b := by
  unfold cmpNt firstZ firstZ firstZ lexN cmpZ
  repeat' split
  all_goals omega
set_option maxRecDepth 100000 in
theorem cmpPr_iff {a b : Pr} : ¬ 0 ≤ cmpPr a b ↔ lexP a b := by
  unfold cmpPr firstZ firstZ firstZ lexP cmpZ
  repeat' split
  all_goals omega
end Go.Proofs.YtdpegkkbhanjkaaDoor
