/-
  Walks of chain: add, put; how edges and kept values lie in memory.
-/
import Derived.Test.YtgfaiihekibcbaaGreatDoorLibV
import Derived.Test.YtgfaiihekibcbaaGreatDoorLibG
import Derived.Deep.MidRow
set_option maxRecDepth 100000
set_option linter.unusedVariables false
namespace Go.Sx
open Go.RowKit
/-- A part of one element's cells written. -/
theorem Bk.part {α : Type} {w : World} {g : Nat} {e : TypeId} {sz : Nat} {enc : α → List Value} {xs : List α} (h : Bk w g e enc xs) (hl : ∀ x ∈ xs, (enc x).length = sz) {k : Nat} (hk : k < xs.length) (y : α) {pre vs0 suf vs : List Value}
    (hx : enc xs[k] = pre ++ vs0 ++ suf) (hy : enc y = pre ++ vs ++ suf) (hv : vs0.length = vs.length) : Bk (w.setCells g (k * sz + pre.length) vs) g e enc (xs.set k y) := by
  have hl0 : pre.length + vs.length + suf.length = sz := by
    have := hl _ (List.getElem_mem hk)
    rw [hx] at this; simp only [List.length_append] at this; omega
  obtain ⟨cs, h1, h2⟩ := h
  obtain ⟨cs', h3, h4, h5⟩ := heap_setCells w g e vs (k * sz + pre.length) w cs h1
  refine ⟨cs', h3, ?_⟩
  have hlen : cs.size = xs.length * sz := by rw [← Array.length_toList, h2, flatMap_len' hl]
  have hl' : ∀ x ∈ xs.set k y, (enc x).length = sz := fun x hx' => by
    rcases List.mem_or_eq_of_mem_set hx' with h | h
    · exact hl x h
    · rw [h, hy]; simp only [List.length_append]; omega
  have hkk : k * sz + sz ≤ xs.length * sz := by
    have := Nat.mul_le_mul_right sz (show k + 1 ≤ xs.length from hk)
    rw [Nat.succ_mul] at this; exact this
  apply List.ext_getElem?
  intro j
  rw [Array.getElem?_toList, h5 j]
  by_cases hj : j < xs.length * sz
  · have hsz : 0 < sz := by rcases Nat.eq_zero_or_pos sz with h | h; (rw [h] at hj; omega); exact h
    obtain ⟨q, hq⟩ : ∃ q, j / sz = q := ⟨_, rfl⟩
    obtain ⟨r, hr⟩ : ∃ r, j % sz = r := ⟨_, rfl⟩
    have e1 : j = q * sz + r := by rw [← hq, ← hr, Nat.mul_comm]; exact (Nat.div_add_mod j sz).symm
    have e2 : q < xs.length := by rw [← hq, Nat.div_lt_iff_lt_mul hsz]; exact hj
    have e3 : r < sz := by rw [← hr]; exact Nat.mod_lt _ hsz
    subst e1
    have g1 := flatMap_get hl' q r (by simpa using e2) e3
    rw [g1]
    have g2 := flatMap_get hl q r e2 e3
    rw [← h2, Array.getElem?_toList] at g2
    by_cases hc : q = k
    · subst hc
      simp only [List.getElem_set_self]
      by_cases hin : pre.length ≤ r ∧ r < pre.length + vs.length
      · rw [if_pos (by omega)]
        rw [show q * sz + r - (q * sz + pre.length) = r - pre.length by omega, hy]
        rw [List.getD_eq_getElem?_getD, List.append_assoc, List.getElem?_append_right hin.1, List.getElem?_append_left (by omega), List.getElem?_eq_getElem (show r - pre.length < vs.length by omega)]
        rfl
      · rw [if_neg (by omega), g2, hx, hy]
        congr 1
        rw [List.getD_eq_getElem?_getD, List.getD_eq_getElem?_getD, List.append_assoc, List.append_assoc]
        by_cases hp : r < pre.length
        · rw [List.getElem?_append_left hp, List.getElem?_append_left hp]
        · rw [List.getElem?_append_right (by omega), List.getElem?_append_right (by omega), List.getElem?_append_right (by omega), List.getElem?_append_right (by omega), hv]
    · have hn : ¬ (k * sz + pre.length ≤ q * sz + r ∧ q * sz + r < k * sz + pre.length + vs.length ∧ q * sz + r < cs.size) := fun ⟨p1, p2, _⟩ => hc (by
        have d1 : (q * sz + r) / sz = q := hq
        rw [← d1]
        apply Nat.le_antisymm
        · exact Nat.le_of_lt_succ ((Nat.div_lt_iff_lt_mul hsz).2 (by rw [Nat.succ_mul]; omega))
        · exact (Nat.le_div_iff_mul_le hsz).2 (by omega))
      rw [if_neg hn, g2, List.getElem_set_ne (by omega)]
  · rw [if_neg (by omega), Array.getElem?_eq_none (by omega), List.getElem?_eq_none (by rw [flatMap_len' hl']; simpa using hj)]
end Go.Sx
namespace Go.Proofs.YtgfaiihekibcbaaGreatDoor
open Go.RowKit Go.Sx Go.Sx.Sz Go.Sx.Sc Go.Sx.Po Go.Sx.Ch

def encE (e : Ed) : List Value := [.int .i64 e.f, .int .i64 e.t, .int .i64 e.k, .int .i64 e.v.a, .int .i64 e.v.b, .int .i64 e.v.c, .int .i64 e.v.d, .int .i64 e.v.e, .int .i64 e.v.f]
/-- What package chain keeps of the products at a note. -/
structure Rt where
  n : Int
  x : V6
  y : V6
deriving Inhabited
def encRt (r : Rt) : List Value := [.int .i64 r.n, .int .i64 r.x.a, .int .i64 r.x.b, .int .i64 r.x.c, .int .i64 r.x.d, .int .i64 r.x.e, .int .i64 r.x.f, .int .i64 r.y.a, .int .i64 r.y.b, .int .i64 r.y.c, .int .i64 r.y.d, .int .i64 r.y.e, .int .i64 r.y.f]
def rtOf (l : List V6) : Rt := ⟨l.length, l.getD 0 V6.zero, l.getD 1 V6.zero⟩
set_option maxHeartbeats 2000000 in
theorem cadd_walk (a b : V6) (ha : Sml 1000000 a) (hb : Sml 1000000 b) (w : World) :
    Calls Tryz.prog 44 #[.agg #[.int .i64 a.a, .int .i64 a.b, .int .i64 a.c, .int .i64 a.d, .int .i64 a.e, .int .i64 a.f], .agg #[.int .i64 b.a, .int .i64 b.b, .int .i64 b.c, .int .i64 b.d, .int .i64 b.e, .int .i64 b.f]] w fun e w' => e = .returned (.agg #[.int .i64 (a.add b 1).a, .int .i64 (a.add b 1).b, .int .i64 (a.add b 1).c, .int .i64 (a.add b 1).d, .int .i64 (a.add b 1).e, .int .i64 (a.add b 1).f]) ∧ Ext w w' := by
  have ix := fun (k : Nat) (hk : k < 6) (w : World) => run_index_v6 (P := Tryz.prog) (t := 32) Tryz.underlying32 Tryz.underlying3 (by kernel_rfl) b hk w
  have X0 : Ext w (((w.alloc (.cells (#[.int .i64 a.a, .int .i64 a.b, .int .i64 a.c, .int .i64 a.d, .int .i64 a.e, .int .i64 a.f] : Array Value) 32)).alloc (.cells (#[.int .i64 b.a, .int .i64 b.b, .int .i64 b.c, .int .i64 b.d, .int .i64 b.e, .int .i64 b.f] : Array Value) 32)).alloc (.cells #[.int .i64 0, .int .i64 0, .int .i64 0, .int .i64 0, .int .i64 0, .int .i64 0] 32)) := (by repeat (first | with_reducible exact Ext.refl _ | with_reducible assumption | with_reducible apply Ext.alloc | with_reducible apply Ext.drew | (with_reducible refine Ext.setCell ?_ (by (try simp) <;> omega) _)))
  have b0_0 := block_alloc (block_alloc (block_new w (.cells (#[.int .i64 a.a, .int .i64 a.b, .int .i64 a.c, .int .i64 a.d, .int .i64 a.e, .int .i64 a.f] : Array Value) 32)) (.cells (#[.int .i64 b.a, .int .i64 b.b, .int .i64 b.c, .int .i64 b.d, .int .i64 b.e, .int .i64 b.f] : Array Value) 32)) (.cells #[.int .i64 0, .int .i64 0, .int .i64 0, .int .i64 0, .int .i64 0, .int .i64 0] 32)
  have b0_1 := block_alloc (block_at (w := (w.alloc (.cells (#[.int .i64 a.a, .int .i64 a.b, .int .i64 a.c, .int .i64 a.d, .int .i64 a.e, .int .i64 a.f] : Array Value) 32))) (n := w.heap.size + 1) (by simp) (.cells (#[.int .i64 b.a, .int .i64 b.b, .int .i64 b.c, .int .i64 b.d, .int .i64 b.e, .int .i64 b.f] : Array Value) 32)) (.cells #[.int .i64 0, .int .i64 0, .int .i64 0, .int .i64 0, .int .i64 0, .int .i64 0] 32)
  have b0_2 := block_at (w := ((w.alloc (.cells (#[.int .i64 a.a, .int .i64 a.b, .int .i64 a.c, .int .i64 a.d, .int .i64 a.e, .int .i64 a.f] : Array Value) 32)).alloc (.cells (#[.int .i64 b.a, .int .i64 b.b, .int .i64 b.c, .int .i64 b.d, .int .i64 b.e, .int .i64 b.f] : Array Value) 32))) (n := w.heap.size + 1 + 1) (by simp) (.cells #[.int .i64 0, .int .i64 0, .int .i64 0, .int .i64 0, .int .i64 0, .int .i64 0] 32)
  obtain ⟨W0, hW0⟩ : ∃ W, (((w.alloc (.cells (#[.int .i64 a.a, .int .i64 a.b, .int .i64 a.c, .int .i64 a.d, .int .i64 a.e, .int .i64 a.f] : Array Value) 32)).alloc (.cells (#[.int .i64 b.a, .int .i64 b.b, .int .i64 b.c, .int .i64 b.d, .int .i64 b.e, .int .i64 b.f] : Array Value) 32)).alloc (.cells #[.int .i64 0, .int .i64 0, .int .i64 0, .int .i64 0, .int .i64 0, .int .i64 0] 32)) = W := ⟨_, rfl⟩
  obtain ⟨B0, hB0⟩ : ∃ B, w.heap.size = B := ⟨_, rfl⟩
  rw [hW0] at X0 b0_0 b0_1 b0_2
  rw [hB0] at b0_0 b0_1 b0_2
  have HZ0 : Hid (w.heap.size ≤ B0) := Lib.hid (by omega)
  have HW0 := Lib.hid hW0; have HB0 := Lib.hid hB0
  clear hW0 hB0
  have d0 := block_cell b0_1 0 _ rfl; have d1 := block_cell b0_1 1 _ rfl; have d2 := block_cell b0_1 2 _ rfl; have d3 := block_cell b0_1 3 _ rfl; have d4 := block_cell b0_1 4 _ rfl; have d5 := block_cell b0_1 5 _ rfl
  have hA : W0.heap[B0]? = some (.cells (addK a b 1 0).cells 32 (0, 0)) := by rw [addK_zero]; exact b0_0
  have H1 := Lib.hid ha; have H2 := Lib.hid hb
  have HA := Lib.hid hA; have HR := Lib.hid b0_2
  clear ha hb b0_0 b0_1 b0_2 hA
  go_enter Tryz.func44, Tryz.ntmps44
  go_wp2
  rw [HW0.out, HB0.out]
  clear d0 d1 d2 d3 d4 d5 HW0 HB0
  go_loopw [8] (fun i wr => ∃ k : Nat, k ≤ 6 ∧ i = .int .i64 k ∧ wr.heap[B0]? = some (.cells (addK a b 1 k).cells 32 (0, 0)) ∧ wr.heap[B0 + 1 + 1]? = some (.cells #[.int .i64 0, .int .i64 0, .int .i64 0, .int .i64 0, .int .i64 0, .int .i64 0] 32 (0, 0)) ∧ Ext w wr) (fun i _ => 6 - (intOf i).toNat)
  case atStart => exact ⟨0, by omega, by first | rfl | trivial, HA.out, HR.out, X0⟩
  case round =>
    obtain ⟨k, hk, rfl, hA, hR, X⟩ := hrel
    clear HA HR
    by_cases hlt : k < 6
    · have hx := ix k hlt
      clear ix
      have a1 := H1.out k hlt; have a2 := H2.out k hlt
      have hc := block_cell hA k _ (V6.cells_at _ hlt)
      rw [addK_get _ _ _ hlt] at hc
      have hf := block_free hA k
      have hR2 : (wr.setCell ⟨B0, k, none⟩ (.int .i64 (a.get k + 1 * b.get k))).heap[B0 + 1 + 1]? = some (.cells #[.int .i64 0, .int .i64 0, .int .i64 0, .int .i64 0, .int .i64 0, .int .i64 0] 32 (0, 0)) := block_ne hR k (.int .i64 (a.get k + 1 * b.get k)) (by omega)
      have NX := Lib.hid (And.intro (block_set hA k (.int .i64 (a.get k + 1 * b.get k))) (And.intro hR2 (X.setCell (p := ⟨B0, k, none⟩) HZ0.out (.int .i64 (a.get k + 1 * b.get k)))))
      rw [← addK_succ a b 1 hlt] at NX
      obtain ⟨x, hx1⟩ : ∃ x, a.get k = x := ⟨_, rfl⟩
      obtain ⟨y, hy1⟩ : ∃ y, b.get k = y := ⟨_, rfl⟩
      rw [hx1] at a1 hc NX; rw [hy1] at a2 hx NX
      rw [Int.one_mul] at NX
      have E2 : IntKind.i64.wrap (x + y) = x + y := IntWalk.i64_in _ (by omega)
      have i1 : (0 : Int) ≤ (k : Int) := by omega
      have i2 : (k : Int) < 6 := by omega
      clear hA hR hR2 X hx1 hy1 a1 a2
      go_wp2
      go_roundw
      case rel => exact ⟨k + 1, by omega, by go_num, NX.out.1, NX.out.2.1, NX.out.2.2⟩
      case measure => simp [intOf]; omega
    · obtain rfl : k = 6 := by omega
      rw [addK_six] at hA
      obtain ⟨r, hr⟩ : ∃ r, a.add b 1 = r := ⟨_, rfl⟩
      have HRE := Lib.hid hr
      rw [hr] at hA
      clear hr
      have hA : wr.heap[B0]? = some (.cells (#[.int .i64 r.a, .int .i64 r.b, .int .i64 r.c, .int .i64 r.d, .int .i64 r.e, .int .i64 r.f] : Array Value) 32 (0, 0)) := hA
      have c0 := block_cell hA 0 _ rfl; have c1 := block_cell hA 1 _ rfl; have c2 := block_cell hA 2 _ rfl; have c3 := block_cell hA 3 _ rfl; have c4 := block_cell hA 4 _ rfl; have c5 := block_cell hA 5 _ rfl
      have n2 := setRow_at hR (#[.int .i64 r.a, .int .i64 r.b, .int .i64 r.c, .int .i64 r.d, .int .i64 r.e, .int .i64 r.f] : Array Value)
      have XX := X.setRow (g := B0 + 1 + 1) (by have := HZ0.out; omega) (#[.int .i64 r.a, .int .i64 r.b, .int .i64 r.c, .int .i64 r.d, .int .i64 r.e, .int .i64 r.f] : Array Value)
      have e0 := block_cell n2 0 _ rfl; have e1 := block_cell n2 1 _ rfl; have e2 := block_cell n2 2 _ rfl; have e3 := block_cell n2 3 _ rfl; have e4 := block_cell n2 4 _ rfl; have e5 := block_cell n2 5 _ rfl
      have HRR := Lib.hid hR
      clear ix hA hR n2
      go_wp2_with (first | (refine wpList_store_row rfl _ _ _ rfl (B0 + 1 + 1) _ rfl rfl _ _ HRR.out (by kernel_rfl) rfl (by simp [Value.oneCell']) ?_) | fail)
      refine bodyPost_ret (v := .agg #[.int .i64 r.a, .int .i64 r.b, .int .i64 r.c, .int .i64 r.d, .int .i64 r.e, .int .i64 r.f]) (by simp [results, Tryz.results44, go_sem, e0, e1, e2, e3, e4, e5]) rfl ⟨by rw [HRE.out], XX⟩
end Go.Proofs.YtgfaiihekibcbaaGreatDoor
