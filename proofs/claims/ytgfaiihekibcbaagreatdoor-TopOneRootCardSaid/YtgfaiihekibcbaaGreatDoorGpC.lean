/-
  Walks of chain: opens; slices.Values of edges, from.
-/
import Derived.Test.YtgfaiihekibcbaaGreatDoorGpB
import Derived.Test.YtgfaiihekibcbaaGreatDoorRgi
set_option maxRecDepth 100000
set_option linter.unusedVariables false
namespace Go.Proofs.YtgfaiihekibcbaaGreatDoor
open Go.RowKit Go.Sx Go.Sx.Sz Go.Sx.Sc Go.Sx.Po Go.Sx.Ch
attribute [local go_sem] Oper.semAt_some wide_fn wide_depth

theorem rt_sl {w : World} {B : Nat} {l : List V6} {x y : V6} (hx : rtOf l = ⟨l.length, x, y⟩) (h2 : l.length ≤ 2) (hb : w.heap[B]? = some (.cells #[.int .i64 l.length, .int .i64 x.a, .int .i64 x.b, .int .i64 x.c, .int .i64 x.d, .int .i64 x.e, .int .i64 x.f, .int .i64 y.a, .int .i64 y.b, .int .i64 y.c, .int .i64 y.d, .int .i64 y.e, .int .i64 y.f] 84 (0, 0))) :
    Sl w 6 V6.list (.slice (some ⟨B, 1, none⟩) l.length 2) l := by
  refine ⟨_, 2, rfl, h2, by simp [maxLen], by omega, fun i hi => ⟨_, rfl, fun j hj => ?_⟩⟩
  have hx1 : l.getD 0 V6.zero = x := congrArg Rt.x hx
  have hy1 : l.getD 1 V6.zero = y := congrArg Rt.y hx
  rw [Addr.add_lit]
  match l, h2, hi with
  | [a], _, hi =>
    obtain rfl : i = 0 := by simp at hi; omega
    have hx1 : a = x := hx1
    subst hx1
    rcases lt6 hj with rfl | rfl | rfl | rfl | rfl | rfl
    · exact block_cell hb 1 _ rfl
    · exact block_cell hb 2 _ rfl
    · exact block_cell hb 3 _ rfl
    · exact block_cell hb 4 _ rfl
    · exact block_cell hb 5 _ rfl
    · exact block_cell hb 6 _ rfl
  | [a, b], _, hi =>
    have hx1 : a = x := hx1
    have hy1 : b = y := hy1
    subst hx1 hy1
    have h2i : i = 0 ∨ i = 1 := by simp at hi; omega
    rcases h2i with rfl | rfl
    · rcases lt6 hj with rfl | rfl | rfl | rfl | rfl | rfl
      · exact block_cell hb 1 _ rfl
      · exact block_cell hb 2 _ rfl
      · exact block_cell hb 3 _ rfl
      · exact block_cell hb 4 _ rfl
      · exact block_cell hb 5 _ rfl
      · exact block_cell hb 6 _ rfl
    · rcases lt6 hj with rfl | rfl | rfl | rfl | rfl | rfl
      · exact block_cell hb 7 _ rfl
      · exact block_cell hb 8 _ rfl
      · exact block_cell hb 9 _ rfl
      · exact block_cell hb 10 _ rfl
      · exact block_cell hb 11 _ rfl
      · exact block_cell hb 12 _ rfl

set_option maxHeartbeats 2000000 in
theorem opens_walk (l : List V6) (h2 : l.length ≤ 2) (x y v : V6) (hx : rtOf l = ⟨l.length, x, y⟩) (hl : ∀ u ∈ l, Sml 1000000 u) (hv : Sml 1000000 v) (w : World) :
    Calls Tryz.prog 40 #[.agg #[.int .i64 l.length, .int .i64 x.a, .int .i64 x.b, .int .i64 x.c, .int .i64 x.d, .int .i64 x.e, .int .i64 x.f, .int .i64 y.a, .int .i64 y.b, .int .i64 y.c, .int .i64 y.d, .int .i64 y.e, .int .i64 y.f], .agg #[.int .i64 v.a, .int .i64 v.b, .int .i64 v.c, .int .i64 v.d, .int .i64 v.e, .int .i64 v.f]] w fun e w' => e = .returned (.bool (opensR l v)) ∧ Ext w w' := by
  have X0 : Ext w ((w.alloc (.cells #[.int .i64 l.length, .int .i64 x.a, .int .i64 x.b, .int .i64 x.c, .int .i64 x.d, .int .i64 x.e, .int .i64 x.f, .int .i64 y.a, .int .i64 y.b, .int .i64 y.c, .int .i64 y.d, .int .i64 y.e, .int .i64 y.f] 84)).alloc (.cells (#[.int .i64 v.a, .int .i64 v.b, .int .i64 v.c, .int .i64 v.d, .int .i64 v.e, .int .i64 v.f] : Array Value) 32)) := (by repeat (first | with_reducible exact Ext.refl _ | with_reducible assumption | with_reducible apply Ext.alloc | with_reducible apply Ext.drew | (with_reducible refine Ext.setCell ?_ (by (try simp) <;> omega) _)))
  have b0_0 := block_alloc (block_new w (.cells #[.int .i64 l.length, .int .i64 x.a, .int .i64 x.b, .int .i64 x.c, .int .i64 x.d, .int .i64 x.e, .int .i64 x.f, .int .i64 y.a, .int .i64 y.b, .int .i64 y.c, .int .i64 y.d, .int .i64 y.e, .int .i64 y.f] 84)) (.cells (#[.int .i64 v.a, .int .i64 v.b, .int .i64 v.c, .int .i64 v.d, .int .i64 v.e, .int .i64 v.f] : Array Value) 32)
  have b0_1 := block_at (w := (w.alloc (.cells #[.int .i64 l.length, .int .i64 x.a, .int .i64 x.b, .int .i64 x.c, .int .i64 x.d, .int .i64 x.e, .int .i64 x.f, .int .i64 y.a, .int .i64 y.b, .int .i64 y.c, .int .i64 y.d, .int .i64 y.e, .int .i64 y.f] 84))) (n := w.heap.size + 1) (by simp) (.cells (#[.int .i64 v.a, .int .i64 v.b, .int .i64 v.c, .int .i64 v.d, .int .i64 v.e, .int .i64 v.f] : Array Value) 32)
  obtain ⟨W0, hW0⟩ : ∃ W, ((w.alloc (.cells #[.int .i64 l.length, .int .i64 x.a, .int .i64 x.b, .int .i64 x.c, .int .i64 x.d, .int .i64 x.e, .int .i64 x.f, .int .i64 y.a, .int .i64 y.b, .int .i64 y.c, .int .i64 y.d, .int .i64 y.e, .int .i64 y.f] 84)).alloc (.cells (#[.int .i64 v.a, .int .i64 v.b, .int .i64 v.c, .int .i64 v.d, .int .i64 v.e, .int .i64 v.f] : Array Value) 32)) = W := ⟨_, rfl⟩
  obtain ⟨B0, hB0⟩ : ∃ B, w.heap.size = B := ⟨_, rfl⟩
  rw [hW0] at X0 b0_0 b0_1
  rw [hB0] at b0_0 b0_1
  have HZ0 : Hid (w.heap.size ≤ B0) := Lib.hid (by omega)
  have HW0 := Lib.hid hW0; have HB0 := Lib.hid hB0
  clear hW0 hB0
  have SL := Lib.hid (rt_sl hx h2 b0_0)
  have d0 := block_cell b0_0 0 _ rfl
  have e0 := ext_cells (block_cell b0_1 0 _ rfl); have e1 := ext_cells (block_cell b0_1 1 _ rfl); have e2 := ext_cells (block_cell b0_1 2 _ rfl); have e3 := ext_cells (block_cell b0_1 3 _ rfl); have e4 := ext_cells (block_cell b0_1 4 _ rfl); have e5 := ext_cells (block_cell b0_1 5 _ rfl)
  have HE := Lib.hid (And.intro e0 (And.intro e1 (And.intro e2 (And.intro e3 (And.intro e4 e5)))))
  have HL := Lib.hid hl; have HV := Lib.hid hv
  have k1 : (l.length : Int) ≤ 2 := by omega
  have k2 : (0 : Int) ≤ (l.length : Int) := by omega
  clear b0_0 b0_1 hx hl hv e0 e1 e2 e3 e4 e5
  go_enter Tryz.func40, Tryz.ntmps40
  go_upto_region 1 with fail
  rw [HW0.out, HB0.out]
  clear HW0 HB0
  go_wp2
  go_loopw [12] (fun i wr => ∃ k : Nat, k ≤ l.length ∧ i = .int .i64 k ∧ (∀ j (h : j < l.length), j < k → v.add l[j] 1 = V6.zero) ∧ Ext W0 wr) (fun i _ => l.length - (intOf i).toNat)
  case atStart => exact ⟨0, by omega, rfl, fun j _ hj => absurd hj (Nat.not_lt_zero _), Ext.refl _⟩
  case round =>
    obtain ⟨k, hk, rfl, hno, X⟩ := hrel
    have HN := Lib.hid hno
    clear hno d0
    by_cases hlt : k < l.length
    · obtain ⟨b, o, e, q0, q1, q2, q3, q4, q5⟩ := Sl.vec (SL.out.ext X) k hlt
      cases e
      obtain ⟨u, hu⟩ : ∃ u, l[k] = u := ⟨_, rfl⟩
      rw [hu] at q0 q1 q2 q3 q4 q5
      have CA := Lib.hid fun w' => cadd_walk v u HV.out (HL.out u (by rw [← hu]; exact List.getElem_mem hlt)) w'
      obtain ⟨r, hr⟩ : ∃ r, v.add u 1 = r := ⟨_, rfl⟩
      rw [hr] at CA
      have HU := Lib.hid hu; have HR := Lib.hid hr
      obtain ⟨f0, f1, f2, f3, f4, f5⟩ := HE.out
      have XA := X.trans (Ext.alloc' wr (.cells (#[.int .i64 u.a, .int .i64 u.b, .int .i64 u.c, .int .i64 u.d, .int .i64 u.e, .int .i64 u.f] : Array Value) 32))
      have f0 := f0 _ XA; have f1 := f1 _ XA; have f2 := f2 _ XA; have f3 := f3 _ XA; have f4 := f4 _ XA; have f5 := f5 _ XA
      have i1 : (0 : Int) ≤ (k : Int) := by omega
      have i2 : (k : Int) < (l.length : Int) := by omega
      have t1 : decide (k < l.length) = true := decide_eq_true hlt
      obtain ⟨c, hc⟩ : ∃ c : Bool, decide (r = V6.zero) = c := ⟨_, rfl⟩
      have VQ : ∀ w', (Op.equalIn 10000 32 (.agg #[.int .i64 r.a, .int .i64 r.b, .int .i64 r.c, .int .i64 r.d, .int .i64 r.e, .int .i64 r.f]) (.agg #[.int .i64 0, .int .i64 0, .int .i64 0, .int .i64 0, .int .i64 0, .int .i64 0])).run Tryz.prog w' = .ok c w' := by
        rw [← hc]; exact run_eq_v6 (P := Tryz.prog) Tryz.underlying32 Tryz.underlying3 (by kernel_rfl) r V6.zero 9998
      have HC := Lib.hid hc
      have HX := Lib.hid X
      clear hu hr hc
      go_wp2_with fail
      refine (CA.out _).mono ?_
      rintro e w5 ⟨rfl, x5⟩
      have X5 : Ext w w5 := X0.trans (HX.out.trans ((Ext.alloc' _ _).trans x5))
      have X50 : Ext W0 w5 := HX.out.trans ((Ext.alloc' _ _).trans x5)
      clear q0 q1 q2 q3 q4 q5 f0 f1 f2 f3 f4 f5 x5 X XA
      cases c with
      | false =>
        have ho : opensR l v = true := by
          unfold opensR
          rw [List.any_eq_true]
          exact ⟨l[k], List.getElem_mem hlt, by rw [HU.out, HR.out]; exact decide_eq_true (of_decide_eq_false HC.out)⟩
        go_wp2
        go_ret
        exact ⟨by rw [ho] <;> rfl, X5⟩
      | true =>
        go_wp2
        go_roundw
        case rel =>
          refine ⟨k + 1, by omega, by go_num, fun j hj hj2 => ?_, X50⟩
          by_cases hjk : j = k
          · subst hjk; rw [HU.out, HR.out]; exact of_decide_eq_true HC.out
          · exact HN.out j hj (by omega)
        case measure => simp [intOf]; omega
    · obtain rfl : k = l.length := by omega
      have ho : opensR l v = false := by
        unfold opensR
        rw [List.any_eq_false]
        intro u hu
        obtain ⟨j, hj, rfl⟩ := List.getElem_of_mem hu
        rw [HN.out j hj hj]; simp
      go_wp2
      go_ret
      exact ⟨by rw [ho] <;> rfl, X0.trans X⟩
end Go.Proofs.YtgfaiihekibcbaaGreatDoor
