/-
  Walks: align.Align as a whole; align.shaped and what it calls.
-/
import Derived.Test.YthpfalbeieloaaaGreatDoorAlH
set_option maxRecDepth 100000
set_option linter.unusedVariables false
namespace Go.Proofs.YthpfalbeieloaaaGreatDoor
open Go.RowKit Go.Sx Go.Sx.Sz Go.Sx.Al

set_option maxRecDepth 100000 in
set_option maxHeartbeats 1000000 in
theorem align_walk (vd vh : Value) (ds : List Due) (hs : List Hrd) (p : Prc) (hn1 : ds.length * 56 ≤ 140737488351232) (hn2 : hs.length * 24 ≤ 140737488351232) (w : World) (G : Gl 1 w) (Sd : Sl w 7 encD vd ds) (Sh : Sl w 3 encH vh hs) :
    Calls Tryz.prog 10 #[vd, vh, .agg #[.int .i64 p.skip, .int .i64 p.off]] w fun e w' => ∃ vl vt, e = .returned (.tuple #[vl, .int .i64 (alCr ds hs p), vt, .int .i64 (alEr ds hs p)]) ∧ Sl w' 2 encM vl (alLr ds hs p) ∧ Tab w' vt (alTr ds hs p) ∧ Ext w w' := by
  cases hok : alOk ds hs p with
  | true =>
    have h1 : alCr ds hs p = tab ds hs p 0 0 := by rw [alCr, if_pos hok]
    have h2 : alEr ds hs p = 0 := by rw [alEr, if_pos hok]
    have h3 : alLr ds hs p = pathL ds hs p := by rw [alLr, if_pos hok]
    have h4 : alTr ds hs p = tableL ds hs p := by rw [alTr, if_pos hok]
    rw [h1, h2, h3, h4]
    exact align_yes vd vh ds hs p hn1 hn2 hok w G Sd Sh
  | false =>
    have h1 : alCr ds hs p = 0 := by rw [alCr, hok]; rfl
    have h2 : alEr ds hs p = 1 := by rw [alEr, hok]; rfl
    have h3 : alLr ds hs p = [] := by rw [alLr, hok]; rfl
    have h4 : alTr ds hs p = [] := by rw [alTr, hok]; rfl
    rw [h1, h2, h3, h4]
    have HO := Lib.hid hok
    clear hok h1 h2 h3 h4
    obtain ⟨ad, cd, rfl, -, -, -⟩ := Sd.len
    obtain ⟨ah, ch, rfl, -, -, -⟩ := Sh.len
    go_enter Tryz.func10, Tryz.ntmps10
    go_wp2_with fail
    refine (alvalid_walk _ _ ds hs p hn1 hn2 _ (Sd.ext (by repeat (first | with_reducible exact Ext.refl _ | with_reducible assumption | with_reducible apply Ext.alloc | with_reducible apply Ext.drew | (with_reducible refine Ext.setCell ?_ (by (try simp) <;> omega) _)))) (Sh.ext (by repeat (first | with_reducible exact Ext.refl _ | with_reducible assumption | with_reducible apply Ext.alloc | with_reducible apply Ext.drew | (with_reducible refine Ext.setCell ?_ (by (try simp) <;> omega) _))))).mono ?_
    rw [HO.out]
    rintro e w1 ⟨rfl, x1⟩
    have X1 : Ext w w1 := Ext.trans (by repeat (first | with_reducible exact Ext.refl _ | with_reducible assumption | with_reducible apply Ext.alloc | with_reducible apply Ext.drew | (with_reducible refine Ext.setCell ?_ (by (try simp) <;> omega) _))) x1
    go_wp2
    refine bodyPost_ret (v := .tuple #[.slice none 0 0, .int .i64 0, .slice none 0 0, .int .i64 1]) (by simp [results, Tryz.results10, go_sem]) rfl ⟨_, _, rfl, Sl.nil _ _ _, Tab.nil _, X1⟩

def inR (x : Int) : Bool := decide (-1000000000 ≤ x) && decide (x ≤ 1000000000)
theorem wrong_walk (x : Int) (w : World) : Calls Tryz.prog 51 #[.int .i64 x] w fun e w' => e = .returned (.bool (!inR x)) ∧ Ext w w' := by
  by_cases h1 : x < -1000000000
  · have hx : (!inR x) = true := by rw [inR, decide_eq_false (by omega : ¬ -1000000000 ≤ x)]; rfl
    rw [hx]
    clear hx
    go_enter Tryz.func51, Tryz.ntmps51
    go_wp2
    go_ret
    exact ⟨rfl, Ext.refl _⟩
  · have hx : (!inR x) = decide (1000000000 < x) := by
      rw [inR, decide_eq_true (by omega : -1000000000 ≤ x), Bool.true_and, ← decide_not]
      exact decide_eq_decide.2 (by omega)
    rw [hx]
    clear hx
    go_enter Tryz.func51, Tryz.ntmps51
    go_wp2
    go_ret
    exact ⟨rfl, Ext.refl _⟩

def idxZ : Option Nat → Int
  | some k => k
  | none => -1
set_option maxHeartbeats 1000000 in
theorem idxz_walk (v : Value) (l : List Int) (fn : Nat) (p : Int → Bool) (w : World) (S : Sl w 1 encZ v l)
    (hen : ∀ args w, (callFunc fn args).run Tryz.prog w = .ok (.enter fn args) w)
    (hcall : ∀ x ∈ l, ∀ w', Calls Tryz.prog fn #[.int .i64 x] w' fun e w'' => e = .returned (.bool (p x)) ∧ Ext w' w'') :
    Calls Tryz.prog 72 #[v, .func (.func fn) #[] #[]] w fun e w' => e = .returned (.int .i64 (idxZ (l.findIdx? p))) ∧ Ext w w' := by
  obtain ⟨a?, cap, rfl, h1, h2, h3⟩ := S.len
  clear h1 h2
  have HC := Lib.hid hcall; clear hcall
  go_enter Tryz.func72, Tryz.ntmps72
  go_wp2
  go_loopw [8] (fun i wr => ∃ k : Nat, k ≤ l.length ∧ i = .int .i64 k ∧ (∀ x ∈ l.take k, p x = false) ∧ Ext w wr) (fun i _ => l.length - (intOf i).toNat)
  case atStart => exact ⟨0, by omega, rfl, fun x hx => by simp at hx, (by repeat (first | with_reducible exact Ext.refl _ | with_reducible assumption | with_reducible apply Ext.alloc | with_reducible apply Ext.drew | (with_reducible refine Ext.setCell ?_ (by (try simp) <;> omega) _)))⟩
  case round =>
    obtain ⟨k, hk, rfl, hno, X⟩ := hrel
    have HN := Lib.hid hno; clear hno
    by_cases hlt : k < l.length
    · obtain ⟨b, o, rfl, q0⟩ := Sl.num (S.ext X) k hlt
      cases hp : p l[k] with
      | true =>
        have HP := Lib.hid hp; clear hp
        go_wp2_with fail
        refine (HC.out l[k] (List.getElem_mem _) _).mono ?_
        rw [HP.out]
        rintro e w1 ⟨rfl, x1⟩
        have X1 := X.trans x1
        go_wp2
        go_ret
        have hf : l.findIdx? p = some k := by
          rw [List.findIdx?_eq_some_iff_getElem]
          refine ⟨hlt, HP.out, fun j hj => ?_⟩
          have := HN.out l[j] (List.mem_take_iff_getElem.2 ⟨j, by omega, rfl⟩)
          simpa using this
        exact ⟨by rw [hf]; rfl, X1⟩
      | false =>
        have HP := Lib.hid hp; clear hp
        go_wp2_with fail
        refine (HC.out l[k] (List.getElem_mem _) _).mono ?_
        rw [HP.out]
        rintro e w1 ⟨rfl, x1⟩
        have X1 := X.trans x1
        go_wp2
        go_roundw
        case rel =>
          refine ⟨k + 1, by omega, by go_num, fun x hx => ?_, X1⟩
          rw [List.take_succ_eq_append_getElem hlt, List.mem_append, List.mem_singleton] at hx
          rcases hx with hx | rfl
          · exact HN.out x hx
          · exact HP.out
        case measure => simp [intOf]; omega
    · obtain rfl : k = l.length := by omega
      go_wp2
      go_ret
      have hf : l.findIdx? p = none := by
        rw [List.findIdx?_eq_none_iff]
        have := HN.out
        rw [List.take_length] at this
        exact this
      exact ⟨by rw [hf]; rfl, X⟩

set_option maxHeartbeats 1000000 in
theorem hasz_walk (v : Value) (l : List Int) (fn : Nat) (p : Int → Bool) (w : World) (S : Sl w 1 encZ v l)
    (hen : ∀ args w, (callFunc fn args).run Tryz.prog w = .ok (.enter fn args) w)
    (hcall : ∀ x ∈ l, ∀ w', Calls Tryz.prog fn #[.int .i64 x] w' fun e w'' => e = .returned (.bool (p x)) ∧ Ext w' w'') :
    Calls Tryz.prog 52 #[v, .func (.func fn) #[] #[]] w fun e w' => e = .returned (.bool (l.any p)) ∧ Ext w w' := by
  have HC := Lib.hid hcall; have HE := Lib.hid hen; clear hcall hen
  cases hf : l.findIdx? p with
  | none =>
    have ha : l.any p = false := by
      rw [List.any_eq_false]
      intro x hx
      have := (List.findIdx?_eq_none_iff.1 hf) x hx
      simp [this]
    have HF := Lib.hid hf; have HA := Lib.hid ha
    clear hf ha
    go_enter Tryz.func52, Tryz.ntmps52
    go_wp2_with fail
    refine (idxz_walk v l fn p _ S HE.out HC.out).mono ?_
    rw [HF.out]
    rintro e w1 ⟨rfl, x1⟩
    go_wp2
    go_ret
    exact ⟨by rw [HA.out] <;> rfl, x1⟩
  | some j =>
    have ha : l.any p = true := by
      obtain ⟨hj, hp, _⟩ := List.findIdx?_eq_some_iff_getElem.1 hf
      exact List.any_eq_true.2 ⟨_, List.getElem_mem hj, hp⟩
    have HF := Lib.hid hf; have HA := Lib.hid ha
    clear hf ha
    go_enter Tryz.func52, Tryz.ntmps52
    go_wp2_with fail
    refine (idxz_walk v l fn p _ S HE.out HC.out).mono ?_
    rw [HF.out]
    rintro e w1 ⟨rfl, x1⟩
    rw [show idxZ (some j) = (j : Int) from rfl]
    go_wp2
    go_ret
    exact ⟨by rw [HA.out] <;> first | rfl | simp, x1⟩

def rowB (m : Nat) (r : List Int) : Bool := decide (r.length = m + 1) && !r.any fun x => !inR x
def shapeB (t : List (List Int)) (n m : Nat) : Bool := t.all (rowB m) && decide (t.length = n + 1)

set_option maxHeartbeats 1000000 in
theorem shaped_walk (v : Value) (t : List (List Int)) (n m : Nat) (hn : n ≤ 100) (hm : m ≤ 100) (w : World) (T : Tab w v t) :
    Calls Tryz.prog 27 #[v, .int .i64 n, .int .i64 m] w fun e w' => e = .returned (.bool (shapeB t n m)) ∧ Ext w w' := by
  obtain ⟨a?, cap, rfl, h3⟩ := T.len
  go_enter Tryz.func27, Tryz.ntmps27
  go_wp2
  go_loopw [12] (fun i wr => ∃ k : Nat, k ≤ t.length ∧ i = .int .i64 k ∧ (t.take k).all (rowB m) = true ∧ Ext w wr) (fun i _ => t.length - (intOf i).toNat)
  case atStart => exact ⟨0, by omega, rfl, rfl, (by repeat (first | with_reducible exact Ext.refl _ | with_reducible assumption | with_reducible apply Ext.alloc | with_reducible apply Ext.drew | (with_reducible refine Ext.setCell ?_ (by (try simp) <;> omega) _)))⟩
  case round =>
    obtain ⟨k, hk, rfl, hall, X⟩ := hrel
    have HA := Lib.hid hall
    clear hall
    by_cases hlt : k < t.length
    · obtain ⟨b, o, vr, rfl, q0, SR⟩ := (T.ext X).at k hlt
      obtain ⟨r, hr⟩ : ∃ r, t[k] = r := ⟨_, rfl⟩
      rw [hr] at SR
      obtain ⟨ar, cr, rfl, -, -, hr3⟩ := SR.len
      have hts := List.take_succ_eq_append_getElem hlt
      have hnx : (t.take (k + 1)).all (rowB m) = rowB m r := by rw [hts, List.all_append, HA.out, hr]; simp
      have hno : rowB m r = false → shapeB t n m = false := fun h => by
        unfold shapeB
        have : t.all (rowB m) = false := by
          rw [← Bool.not_eq_true, List.all_eq_true]
          intro hh
          have := hh r (by rw [← hr]; exact List.getElem_mem _)
          rw [h] at this; cases this
        rw [this]; rfl
      have HNX := Lib.hid hnx; have HNO := Lib.hid hno
      clear hts hnx hno hr
      by_cases hl : r.length = m + 1
      · cases hw : r.any fun x => !inR x with
        | true =>
          have hB : Hid (rowB m r = false) := Lib.hid (by rw [rowB, hw]; simp)
          have HW := Lib.hid hw
          have hl' : ((r.length : Int) != (m : Int) + 1) = false := by rw [bne_eq_false_iff_eq]; omega
          have HL := Lib.hid hl
          clear hw hl
          go_wp2_with fail
          refine (hasz_walk _ r 51 (fun x => !inR x) _ SR (enters_of Tryz.func51 (by kernel_rfl) rfl) (fun x _ w' => wrong_walk x w')).mono ?_
          rw [HW.out]
          rintro e w1 ⟨rfl, x1⟩
          go_wp2
          go_ret
          exact ⟨by rw [HNO.out hB.out] <;> rfl, X.trans x1⟩
        | false =>
          have hB : Hid (rowB m r = true) := Lib.hid (by rw [rowB, hw, decide_eq_true hl]; rfl)
          have HW := Lib.hid hw
          have hl' : ((r.length : Int) != (m : Int) + 1) = false := by rw [bne_eq_false_iff_eq]; omega
          have HL := Lib.hid hl
          clear hw hl
          go_wp2_with fail
          refine (hasz_walk _ r 51 (fun x => !inR x) _ SR (enters_of Tryz.func51 (by kernel_rfl) rfl) (fun x _ w' => wrong_walk x w')).mono ?_
          rw [HW.out]
          rintro e w1 ⟨rfl, x1⟩
          go_wp2
          go_roundw
          case rel => exact ⟨k + 1, by omega, by go_num, by rw [HNX.out, hB.out], X.trans x1⟩
          case measure => simp [intOf]; omega
      · have hB : Hid (rowB m r = false) := Lib.hid (by rw [rowB, decide_eq_false hl]; rfl)
        have hl' : ((r.length : Int) != (m : Int) + 1) = true := by rw [bne_iff_ne]; omega
        have HL := Lib.hid hl
        clear hl
        go_wp2
        go_ret
        exact ⟨by rw [HNO.out hB.out] <;> rfl, X⟩
    · obtain rfl : k = t.length := by omega
      have hall := HA.out
      rw [List.take_length] at hall
      have HS : Hid (shapeB t n m = decide (t.length = n + 1)) := Lib.hid (by rw [shapeB, hall]; rfl)
      clear hall T
      by_cases hl : t.length = n + 1
      · have hl' : ((t.length : Int) == (n : Int) + 1) = true := by rw [beq_iff_eq]; omega
        have HL := Lib.hid hl
        clear hl
        go_wp2
        go_ret
        exact ⟨by rw [HS.out, decide_eq_true HL.out] <;> rfl, X⟩
      · have hl' : ((t.length : Int) == (n : Int) + 1) = false := by rw [beq_eq_false_iff_ne]; omega
        have HL := Lib.hid hl
        clear hl
        go_wp2
        go_ret
        exact ⟨by rw [HS.out, decide_eq_false HL.out] <;> rfl, X⟩
end Go.Proofs.YthpfalbeieloaaaGreatDoor
