/-
  Walks: align.Check as a whole; schismaref38.Matches, Tables.
-/
import Derived.Test.YthpfalbeieloaaaGreatDoorAlJ
set_option maxRecDepth 100000
set_option linter.unusedVariables false
namespace Go.Proofs.YthpfalbeieloaaaGreatDoor
open Go.RowKit Go.Sx Go.Sx.Sz Go.Sx.Al

set_option maxRecDepth 100000 in
set_option maxHeartbeats 1000000 in
theorem check_walk (vd vh vl vt : Value) (ds : List Due) (hs : List Hrd) (p : Prc) (l : List Mt) (t : List (List Int)) (hn1 : ds.length * 56 ≤ 140737488351232) (hn2 : hs.length * 24 ≤ 140737488351232) (w : World) (G : Gl 1 w)
    (Sd : Sl w 7 encD vd ds) (Sh : Sl w 3 encH vh hs) (Sm : Sl w 2 encM vl l) (T : Tab w vt t) :
    Calls Tryz.prog 11 #[vd, vh, .agg #[.int .i64 p.skip, .int .i64 p.off], vl, vt] w fun e w' => e = .returned (.tuple #[.bool (checkR ds hs p l t).1, .int .i64 (checkR ds hs p l t).2]) ∧ Ext w w' := by
  cases hok : alOk ds hs p with
  | true =>
    have h1 : checkR ds hs p l t = (checkB ds hs p l t, 0) := by rw [checkR, if_pos hok]
    rw [h1]
    exact check_yes vd vh vl vt ds hs p l t hn1 hn2 hok w G Sd Sh Sm T
  | false =>
    have h1 : checkR ds hs p l t = (false, 1) := by rw [checkR, hok]; rfl
    rw [h1]
    have HO := Lib.hid hok
    clear hok h1
    obtain ⟨ad, cd, rfl, -, -, -⟩ := Sd.len
    obtain ⟨ah, ch, rfl, -, -, -⟩ := Sh.len
    obtain ⟨aT, cT, rfl, -⟩ := T.len
    obtain ⟨am, cm, rfl, -, -, -⟩ := Sm.len
    go_enter Tryz.func11, Tryz.ntmps11
    go_wp2_with fail
    refine (alvalid_walk _ _ ds hs p hn1 hn2 _ (Sd.ext (by repeat (first | with_reducible exact Ext.refl _ | with_reducible assumption | with_reducible apply Ext.alloc | with_reducible apply Ext.drew | (with_reducible refine Ext.setCell ?_ (by (try simp) <;> omega) _)))) (Sh.ext (by repeat (first | with_reducible exact Ext.refl _ | with_reducible assumption | with_reducible apply Ext.alloc | with_reducible apply Ext.drew | (with_reducible refine Ext.setCell ?_ (by (try simp) <;> omega) _))))).mono ?_
    rw [HO.out]
    rintro e w1 ⟨rfl, x1⟩
    have b2 := ((Boxed.new ((w.alloc (.cells #[.int .i64 p.skip, .int .i64 p.off] 30)).alloc (.cells #[.slice aT t.length cT] 55)) 4 (.bool false)).alloc (.cells #[.int .i64 0] 33)).ext x1
    have b3 := (Boxed.new (((w.alloc (.cells #[.int .i64 p.skip, .int .i64 p.off] 30)).alloc (.cells #[.slice aT t.length cT] 55)).alloc (.cells #[.bool false] 4)) 33 (.int .i64 0)).ext x1
    simp only [World.size_alloc] at b2 b3
    have X1 : Ext w w1 := Ext.trans (by repeat (first | with_reducible exact Ext.refl _ | with_reducible assumption | with_reducible apply Ext.alloc | with_reducible apply Ext.drew | (with_reducible refine Ext.setCell ?_ (by (try simp) <;> omega) _))) x1
    have c2 := b2.cell; have c3 := b3.cell; have f2 := b2.frozen; have f3 := b3.frozen
    have l3 := b3.lt
    clear x1
    go_wp2
    refine bodyPost_ret (v := .tuple #[.bool false, .int .i64 1]) (by simp [results, Tryz.results11, go_sem, c2, c3]) rfl ⟨rfl, (X1.setCell (p := ⟨w.heap.size + 1 + 1, 0, none⟩) (by simp; omega) _).setCell (p := ⟨w.heap.size + 1 + 1 + 1, 0, none⟩) (by simp; omega) _⟩

end Go.Proofs.YthpfalbeieloaaaGreatDoor
