/-
  Libraries of these proofs, laid as one text: GpH, GpI.
-/
import Derived.Test.YtgfaiihekibcbaaGreatDoorGpG
/-
  Walks of chain: slices.IndexFunc over edges, product, result.
-/
set_option maxRecDepth 100000
set_option linter.unusedVariables false
namespace Go.Proofs.YtgfaiihekibcbaaGreatDoor
open Go.RowKit Go.Sx Go.Sx.Sz Go.Sx.Sc Go.Sx.Po Go.Sx.Ch

def idxE : Option Nat → Int
  | some k => k
  | none => -1
theorem st_dec (e : Ed) (x : St) : decide (e.st = x) = (((e.f : Int) == x.a) && ((e.t : Int) == x.b) && (e.k == x.k)) := by
  obtain ⟨a, b, k⟩ := x
  by_cases h : e.st = ⟨a, b, k⟩
  · rw [decide_eq_true h]
    unfold Ed.st at h
    injection h with h1 h2 h3
    simp [h1, h2, h3]
  · rw [decide_eq_false h]
    symm
    rw [Bool.eq_false_iff]
    intro hh
    simp only [Bool.and_eq_true, beq_iff_eq] at hh
    obtain ⟨⟨h1, h2⟩, h3⟩ := hh
    apply h
    unfold Ed.st
    rw [h1, h2, h3]
set_option maxHeartbeats 1000000 in
theorem prod0_walk (f t k xa xb xk : Int) (v : V6) (bx : Nat) (w : World) (hx : w.heap[bx]? = some (.cells #[.int .i64 xa, .int .i64 xb, .int .i64 xk] 39 (0, 0))) :
    Calls Tryz.prog 74 #[.agg #[.int .i64 f, .int .i64 t, .int .i64 k, .int .i64 v.a, .int .i64 v.b, .int .i64 v.c, .int .i64 v.d, .int .i64 v.e, .int .i64 v.f], .pointer (some ⟨bx, 0, none⟩)] w fun r w' => r = .returned (.bool ((f == xa) && (t == xb) && (k == xk))) ∧ Ext w w' := by
  have X0 : Ext w (w.alloc (.cells #[.int .i64 f, .int .i64 t, .int .i64 k, .int .i64 v.a, .int .i64 v.b, .int .i64 v.c, .int .i64 v.d, .int .i64 v.e, .int .i64 v.f] 76)) := (by repeat (first | with_reducible exact Ext.refl _ | with_reducible assumption | with_reducible apply Ext.alloc | with_reducible apply Ext.drew | (with_reducible refine Ext.setCell ?_ (by (try simp) <;> omega) _)))
  have b0_0 := block_new w (.cells #[.int .i64 f, .int .i64 t, .int .i64 k, .int .i64 v.a, .int .i64 v.b, .int .i64 v.c, .int .i64 v.d, .int .i64 v.e, .int .i64 v.f] 76)
  obtain ⟨W0, hW0⟩ : ∃ W, (w.alloc (.cells #[.int .i64 f, .int .i64 t, .int .i64 k, .int .i64 v.a, .int .i64 v.b, .int .i64 v.c, .int .i64 v.d, .int .i64 v.e, .int .i64 v.f] 76)) = W := ⟨_, rfl⟩
  obtain ⟨B0, hB0⟩ : ∃ B, w.heap.size = B := ⟨_, rfl⟩
  rw [hW0] at X0 b0_0
  rw [hB0] at b0_0
  have HZ0 : Hid (w.heap.size ≤ B0) := Lib.hid (by omega)
  have HW0 := Lib.hid hW0; have HB0 := Lib.hid hB0
  clear hW0 hB0
  have hx0 := block_ext X0 hx
  have c0 := block_cell b0_0 0 _ rfl; have c1 := block_cell b0_0 1 _ rfl; have c2 := block_cell b0_0 2 _ rfl
  have d0 := block_cell hx0 0 _ rfl; have d1 := block_cell hx0 1 _ rfl; have d2 := block_cell hx0 2 _ rfl
  obtain ⟨b1, h1⟩ : ∃ b, (f == xa) = b := ⟨_, rfl⟩
  obtain ⟨b2, h2⟩ : ∃ b, (t == xb) = b := ⟨_, rfl⟩
  obtain ⟨b3, h3⟩ : ∃ b, (k == xk) = b := ⟨_, rfl⟩
  rw [h1, h2, h3]
  clear b0_0 hx hx0
  cases b1 <;> cases b2 <;> cases b3
  all_goals
    go_enter Tryz.func74, Tryz.ntmps74
    go_upto_region 1 with fail
    rw [HW0.out, HB0.out]
    go_wp2
    go_ret
    exact ⟨rfl, X0⟩
theorem prod1_walk (e : Ed) (x : St) (bx : Nat) (w : World) (hx : w.heap[bx]? = some (.cells #[.int .i64 x.a, .int .i64 x.b, .int .i64 x.k] 39 (0, 0))) :
    Calls Tryz.prog 74 #[.agg #[.int .i64 e.f, .int .i64 e.t, .int .i64 e.k, .int .i64 e.v.a, .int .i64 e.v.b, .int .i64 e.v.c, .int .i64 e.v.d, .int .i64 e.v.e, .int .i64 e.v.f], .pointer (some ⟨bx, 0, none⟩)] w fun r w' => r = .returned (.bool (decide (e.st = x))) ∧ Ext w w' := by
  rw [st_dec]
  exact prod0_walk e.f e.t e.k x.a x.b x.k e.v bx w hx

set_option maxHeartbeats 1000000 in
theorem idxe_walk (v : Value) (l : List Ed) (x : St) (bx : Nat) (w : World) (S : Sl w 9 encE v l) (hx : w.heap[bx]? = some (.cells #[.int .i64 x.a, .int .i64 x.b, .int .i64 x.k] 39 (0, 0))) :
    Calls Tryz.prog 73 #[v, .func (.func 74) #[] #[.pointer (some ⟨bx, 0, none⟩)]] w fun e w' => e = .returned (.int .i64 (idxE (l.findIdx? fun e => decide (e.st = x)))) ∧ Ext w w' := by
  obtain ⟨a?, cap, rfl, h1, h2, h3⟩ := S.len
  have HX := Lib.hid hx
  clear h1 h2 hx
  go_enter Tryz.func73, Tryz.ntmps73
  go_wp2
  go_loopw [8] (fun i wr => ∃ k : Nat, k ≤ l.length ∧ i = .int .i64 k ∧ (∀ e ∈ l.take k, decide (e.st = x) = false) ∧ Ext w wr) (fun i _ => l.length - (intOf i).toNat)
  case atStart => exact ⟨0, by omega, rfl, fun x hx => by simp at hx, Ext.refl _⟩
  case round =>
    obtain ⟨k, hk, rfl, hno, X⟩ := hrel
    have HN := Lib.hid hno; clear hno
    by_cases hlt : k < l.length
    · obtain ⟨b, o, rfl, q0, q1, q2, q3, q4, q5, q6, q7, q8⟩ := Sl.ed (S.ext X) k hlt
      obtain ⟨p, hp⟩ : ∃ p, l[k] = p := ⟨_, rfl⟩
      rw [hp] at q0 q1 q2 q3 q4 q5 q6 q7 q8
      have HP := Lib.hid hp
      have PW := Lib.hid (prod1_walk p x bx wr (block_ext X HX.out))
      obtain ⟨c, hc⟩ : ∃ c, decide (p.st = x) = c := ⟨_, rfl⟩
      rw [hc] at PW
      have HC := Lib.hid hc
      have HXX := Lib.hid X
      have i1 : (0 : Int) ≤ (k : Int) := by omega
      have i2 : (k : Int) < (l.length : Int) := by omega
      clear hc hp X
      go_wp2_with fail
      refine PW.out.mono ?_
      rintro e w1 ⟨rfl, x1⟩
      have X1 := HXX.out.trans x1
      clear q0 q1 q2 q3 q4 q5 q6 q7 q8
      cases c with
      | true =>
        go_wp2
        go_ret
        have hf : l.findIdx? (fun e => decide (e.st = x)) = some k := by
          rw [List.findIdx?_eq_some_iff_getElem]
          refine ⟨hlt, by rw [HP.out]; exact HC.out, fun j hj => ?_⟩
          have := HN.out l[j] (List.mem_take_iff_getElem.2 ⟨j, by omega, rfl⟩)
          simpa using this
        exact ⟨by rw [hf]; rfl, X1⟩
      | false =>
        go_wp2
        go_roundw
        case rel =>
          refine ⟨k + 1, by omega, by go_num, fun e he => ?_, X1⟩
          rw [List.take_succ_eq_append_getElem hlt, List.mem_append, List.mem_singleton] at he
          rcases he with he | rfl
          · exact HN.out e he
          · rw [HP.out]; exact HC.out
        case measure => simp [intOf]; omega
    · obtain rfl : k = l.length := by omega
      go_wp2
      go_ret
      have hf : l.findIdx? (fun e => decide (e.st = x)) = none := by
        rw [List.findIdx?_eq_none_iff]
        have := HN.out
        rw [List.take_length] at this
        exact this
      exact ⟨by rw [hf]; rfl, X⟩
end Go.Proofs.YtgfaiihekibcbaaGreatDoor

/-
  Walks of chain: product.
-/
set_option maxRecDepth 100000
set_option linter.unusedVariables false
namespace Go.Proofs.YtgfaiihekibcbaaGreatDoor
open Go.RowKit Go.Sx Go.Sx.Sz Go.Sx.Sc Go.Sx.Po Go.Sx.Ch

def prodP (rows : Nat → List Ed) (N : Nat) (steps : List St) : Option V6 := prodR rows N steps (lastB steps) V6.zero
def prodV (P : Option V6) : V6 := P.getD V6.zero
def prodC (P : Option V6) : Int := if P.isSome then 0 else 1
theorem idx_find {l : List Ed} {p : Ed → Bool} {i : Nat} (h : l.findIdx? p = some i) : ∃ hi : i < l.length, l.find? p = some l[i] := by
  obtain ⟨hi, h1, h2⟩ := List.findIdx?_eq_some_iff_getElem.1 h
  exact ⟨hi, List.find?_eq_some_iff_getElem.2 ⟨h1, i, hi, rfl, fun j hj => by have := h2 j hj; simpa using this⟩⟩
theorem idx_none {l : List Ed} {p : Ed → Bool} (h : l.findIdx? p = none) : l.find? p = none := by
  rw [List.find?_eq_none]
  intro e he
  have := List.findIdx?_eq_none_iff.1 h e he
  simp [this]
theorem Sl.stp {w : World} {a? : Option Addr} {n cap : Nat} {xs : List St} (h : Sl w 3 encSt (.slice a? n cap) xs) (k : Nat) (hk : k < xs.length) : ∃ b o, a? = some ⟨b, o, none⟩ ∧ w.cell? ⟨b, o + k * 3, none⟩ = some (.int .i64 xs[k].a) ∧ w.cell? ⟨b, o + k * 3 + 1, none⟩ = some (.int .i64 xs[k].b) ∧ w.cell? ⟨b, o + k * 3 + 2, none⟩ = some (.int .i64 xs[k].k) := by
  obtain ⟨b, o, e, hc⟩ := h.at (by omega) k hk
  exact ⟨b, o, e, hc 0 (by omega), hc 1 (by omega), hc 2 (by omega)⟩

set_option maxHeartbeats 8000000 in
theorem product_walk (vg vs : Value) (N : Nat) (rows : Nat → List Ed) (steps : List St) (hne : 0 < steps.length) (hlen : steps.length ≤ 1000) (hS : ∀ n, ∀ e ∈ rows n, Sml 16 e.v) (w : World) (G : GrR w vg N rows) (S : Sl w 3 encSt vs steps) :
    Calls Tryz.prog 45 #[vg, vs] w fun e w' => e = .returned (.tuple #[.agg #[.int .i64 (prodV (prodP rows N steps)).a, .int .i64 (prodV (prodP rows N steps)).b, .int .i64 (prodV (prodP rows N steps)).c, .int .i64 (prodV (prodP rows N steps)).d, .int .i64 (prodV (prodP rows N steps)).e, .int .i64 (prodV (prodP rows N steps)).f], .int .i64 (prodC (prodP rows N steps))]) ∧ Ext w w' := by
  obtain ⟨ag, cg, rfl, hN⟩ := G.len
  obtain ⟨a1, cs, rfl, -, -, -⟩ := S.len
  have X0 : Ext w ((w.alloc (.cells #[.int .i64 0, .int .i64 0, .int .i64 0, .int .i64 0, .int .i64 0, .int .i64 0] 32)).alloc (.cells #[.int .i64 0, .int .i64 0, .int .i64 0, .int .i64 0, .int .i64 0, .int .i64 0] 32)) := (by repeat (first | with_reducible exact Ext.refl _ | with_reducible assumption | with_reducible apply Ext.alloc | with_reducible apply Ext.drew | (with_reducible refine Ext.setCell ?_ (by (try simp) <;> omega) _)))
  have b0_0 := block_alloc (block_new w (.cells #[.int .i64 0, .int .i64 0, .int .i64 0, .int .i64 0, .int .i64 0, .int .i64 0] 32)) (.cells #[.int .i64 0, .int .i64 0, .int .i64 0, .int .i64 0, .int .i64 0, .int .i64 0] 32)
  have b0_1 := block_at (w := (w.alloc (.cells #[.int .i64 0, .int .i64 0, .int .i64 0, .int .i64 0, .int .i64 0, .int .i64 0] 32))) (n := w.heap.size + 1) (by simp) (.cells #[.int .i64 0, .int .i64 0, .int .i64 0, .int .i64 0, .int .i64 0, .int .i64 0] 32)
  obtain ⟨W0, hW0⟩ : ∃ W, ((w.alloc (.cells #[.int .i64 0, .int .i64 0, .int .i64 0, .int .i64 0, .int .i64 0, .int .i64 0] 32)).alloc (.cells #[.int .i64 0, .int .i64 0, .int .i64 0, .int .i64 0, .int .i64 0, .int .i64 0] 32)) = W := ⟨_, rfl⟩
  obtain ⟨B0, hB0⟩ : ∃ B, w.heap.size = B := ⟨_, rfl⟩
  rw [hW0] at X0 b0_0 b0_1
  rw [hB0] at b0_0 b0_1
  have HZ0 : Hid (w.heap.size ≤ B0) := Lib.hid (by omega)
  have HW0 := Lib.hid hW0; have HB0 := Lib.hid hB0
  clear hW0 hB0
  have G0 := Lib.hid G; have S0 := Lib.hid S
  obtain ⟨L1, hL⟩ : ∃ L1, steps.length = L1 + 1 := ⟨steps.length - 1, by omega⟩
  obtain ⟨bs, os, rfl, p0, p1, p2⟩ := Sl.stp (S0.out.ext X0) L1 (by omega)
  have hlast : lastB steps = (steps[L1]'(by omega)).b := by
    unfold lastB
    rw [List.getD_eq_getElem?_getD, show steps.length - 1 = L1 by omega, List.getElem?_eq_getElem (by omega)]; rfl
  rw [← hlast] at p1
  obtain ⟨lst0, hl0⟩ : ∃ z, lastB steps = z := ⟨_, rfl⟩
  rw [hl0] at p1
  obtain ⟨P, hP⟩ : ∃ P, prodP rows N steps = P := ⟨_, rfl⟩
  have HP0 : Hid (prodR rows N steps lst0 V6.zero = P) := Lib.hid (by rw [← hP, prodP, hl0])
  rw [hP, hL]
  have HS := Lib.hid hS
  have HB0' := Lib.hid b0_0; have HB1' := Lib.hid b0_1
  have HLL := Lib.hid hL
  have hl9 : L1 ≤ 999 := by omega
  clear G S hS hlast hl0 hP b0_0 b0_1 p0 p2 hL
  go_enter Tryz.func45, Tryz.ntmps45
  go_upto_region 2 with fail
  rw [HW0.out, HB0.out]
  clear HW0 HB0
  go_wp2

  go_loopw [7, 20] (fun l i wr => ∃ (k : Nat) (lst : Int) (v : V6), k ≤ L1 + 1 ∧ i = .int .i64 k ∧ l = .int .i64 lst ∧ prodR rows N (steps.drop k) lst v = P ∧ Sml (16 * k) v ∧ wr.heap[B0]? = some (.cells #[.int .i64 0, .int .i64 0, .int .i64 0, .int .i64 0, .int .i64 0, .int .i64 0] 32 (0, 0)) ∧ wr.heap[B0 + 1]? = some (.cells (#[.int .i64 v.a, .int .i64 v.b, .int .i64 v.c, .int .i64 v.d, .int .i64 v.e, .int .i64 v.f] : Array Value) 32 (0, 0)) ∧ Ext w wr) (fun _ i _ => L1 + 1 - (intOf i).toNat)
  case atStart => exact ⟨0, lst0, V6.zero, Nat.zero_le _, rfl, rfl, HP0.out, Sml.zero (by omega), HB0'.out, HB1'.out, X0⟩
  case round =>
    obtain ⟨k, lst, v, hk, rfl, rfl, hp, hv, h0, h1, X⟩ := hrel
    clear p1
    have Sr := S0.out.ext X
    by_cases hlt : k < L1 + 1
    · have hks : k < steps.length := by rw [HLL.out]; exact hlt
      obtain ⟨b9, o9, e9, q0, q1, q2⟩ := Sl.stp Sr k hks
      cases e9
      obtain ⟨⟨xa, xb, xk⟩, hx⟩ : ∃ x, steps[k] = x := ⟨_, rfl⟩
      rw [hx] at q0 q1 q2
      have HDR : Hid (steps.drop k = (⟨xa, xb, xk⟩ : St) :: steps.drop (k + 1)) := Lib.hid (by rw [← hx]; exact List.drop_eq_getElem_cons hks)
      have HPP := Lib.hid hp
      have HXX := Lib.hid X
      have HRR := Lib.hid (block_ext (Ext.alloc' wr (.cells #[.int .i64 xa, .int .i64 xb, .int .i64 xk] 39)) h0)
      have i1 : (0 : Int) ≤ (k : Int) := by omega
      have i2 : (k : Int) < ((L1 : Int) + 1) := by omega
      replace q0 : wr.cell? ⟨bs, os + k * 3, none⟩ = some (.int .i64 xa) := q0
      replace q1 : wr.cell? ⟨bs, os + k * 3 + 1, none⟩ = some (.int .i64 xb) := q1
      replace q2 : wr.cell? ⟨bs, os + k * 3 + 2, none⟩ = some (.int .i64 xk) := q2
      have t0 : decide (k < L1 + 1) = true := decide_eq_true hlt
      clear hp hx
      by_cases c1 : xa = lst
      case neg =>
        have HBAD : Hid ((⟨xa, xb, xk⟩ : St).a ≠ lst ∨ (⟨xa, xb, xk⟩ : St).a < 0 ∨ (N : Int) ≤ (⟨xa, xb, xk⟩ : St).a) := Lib.hid (.inl c1)
        have t1 : (xa != lst) = true := bne_iff_ne.2 c1
        clear c1 Sr h1 X h0
        have HF : Hid (P = none) := Lib.hid (by rw [← HPP.out, HDR.out, prodR, if_pos HBAD.out])
        have n2 := setRow_at HRR.out #[.int .i64 0, .int .i64 0, .int .i64 0, .int .i64 0, .int .i64 0, .int .i64 0]
        have XX := Lib.hid ((HXX.out.trans (Ext.alloc' wr (.cells #[.int .i64 xa, .int .i64 xb, .int .i64 xk] 39))).setRow (g := B0) HZ0.out #[.int .i64 0, .int .i64 0, .int .i64 0, .int .i64 0, .int .i64 0, .int .i64 0])
        have e0 := block_cell n2 0 _ rfl; have e1 := block_cell n2 1 _ rfl; have e2 := block_cell n2 2 _ rfl; have e3 := block_cell n2 3 _ rfl; have e4 := block_cell n2 4 _ rfl; have e5 := block_cell n2 5 _ rfl
        clear n2
        go_wp2_with (first | (refine wpList_store_row rfl _ _ _ rfl B0 _ rfl rfl _ _ HRR.out (by kernel_rfl) rfl (by simp [Value.oneCell']) ?_) | fail)
        refine bodyPost_ret (v := .tuple #[.agg #[.int .i64 0, .int .i64 0, .int .i64 0, .int .i64 0, .int .i64 0, .int .i64 0], .int .i64 1]) (by simp [results, Tryz.results45, go_sem, e0, e1, e2, e3, e4, e5]) rfl ⟨by rw [HF.out]; rfl, XX.out⟩
      case pos =>
      subst c1
      have t1 : (xa != xa) = false := by simp
      by_cases c2 : xa < 0
      case pos =>
        have HBAD : Hid ((⟨xa, xb, xk⟩ : St).a ≠ xa ∨ (⟨xa, xb, xk⟩ : St).a < 0 ∨ (N : Int) ≤ (⟨xa, xb, xk⟩ : St).a) := Lib.hid (.inr (.inl c2))
        clear h1 X h0 Sr
        have HF : Hid (P = none) := Lib.hid (by rw [← HPP.out, HDR.out, prodR, if_pos HBAD.out])
        have n2 := setRow_at HRR.out #[.int .i64 0, .int .i64 0, .int .i64 0, .int .i64 0, .int .i64 0, .int .i64 0]
        have XX := Lib.hid ((HXX.out.trans (Ext.alloc' wr (.cells #[.int .i64 xa, .int .i64 xb, .int .i64 xk] 39))).setRow (g := B0) HZ0.out #[.int .i64 0, .int .i64 0, .int .i64 0, .int .i64 0, .int .i64 0, .int .i64 0])
        have e0 := block_cell n2 0 _ rfl; have e1 := block_cell n2 1 _ rfl; have e2 := block_cell n2 2 _ rfl; have e3 := block_cell n2 3 _ rfl; have e4 := block_cell n2 4 _ rfl; have e5 := block_cell n2 5 _ rfl
        clear n2
        go_wp2_with (first | (refine wpList_store_row rfl _ _ _ rfl B0 _ rfl rfl _ _ HRR.out (by kernel_rfl) rfl (by simp [Value.oneCell']) ?_) | fail)
        refine bodyPost_ret (v := .tuple #[.agg #[.int .i64 0, .int .i64 0, .int .i64 0, .int .i64 0, .int .i64 0, .int .i64 0], .int .i64 1]) (by simp [results, Tryz.results45, go_sem, e0, e1, e2, e3, e4, e5]) rfl ⟨by rw [HF.out]; rfl, XX.out⟩
      case neg =>
      by_cases c3 : (N : Int) ≤ xa
      case pos =>
        have HBAD : Hid ((⟨xa, xb, xk⟩ : St).a ≠ xa ∨ (⟨xa, xb, xk⟩ : St).a < 0 ∨ (N : Int) ≤ (⟨xa, xb, xk⟩ : St).a) := Lib.hid (.inr (.inr c3))
        clear h1 X h0 Sr
        have HF : Hid (P = none) := Lib.hid (by rw [← HPP.out, HDR.out, prodR, if_pos HBAD.out])
        have n2 := setRow_at HRR.out #[.int .i64 0, .int .i64 0, .int .i64 0, .int .i64 0, .int .i64 0, .int .i64 0]
        have XX := Lib.hid ((HXX.out.trans (Ext.alloc' wr (.cells #[.int .i64 xa, .int .i64 xb, .int .i64 xk] 39))).setRow (g := B0) HZ0.out #[.int .i64 0, .int .i64 0, .int .i64 0, .int .i64 0, .int .i64 0, .int .i64 0])
        have e0 := block_cell n2 0 _ rfl; have e1 := block_cell n2 1 _ rfl; have e2 := block_cell n2 2 _ rfl; have e3 := block_cell n2 3 _ rfl; have e4 := block_cell n2 4 _ rfl; have e5 := block_cell n2 5 _ rfl
        clear n2
        go_wp2_with (first | (refine wpList_store_row rfl _ _ _ rfl B0 _ rfl rfl _ _ HRR.out (by kernel_rfl) rfl (by simp [Value.oneCell']) ?_) | fail)
        refine bodyPost_ret (v := .tuple #[.agg #[.int .i64 0, .int .i64 0, .int .i64 0, .int .i64 0, .int .i64 0, .int .i64 0], .int .i64 1]) (by simp [results, Tryz.results45, go_sem, e0, e1, e2, e3, e4, e5]) rfl ⟨by rw [HF.out]; rfl, XX.out⟩
      case neg =>
      have HGOOD : Hid (¬ ((⟨xa, xb, xk⟩ : St).a ≠ xa ∨ (⟨xa, xb, xk⟩ : St).a < 0 ∨ (N : Int) ≤ (⟨xa, xb, xk⟩ : St).a)) := Lib.hid (by
        rintro (h | h | h)
        · exact h rfl
        · exact c2 h
        · exact c3 h)
      obtain ⟨n, rfl⟩ : ∃ n : Nat, xa = n := ⟨xa.toNat, by omega⟩
      have hnN : n < N := by omega
      have X4 : Ext wr (wr.alloc (.cells #[.int .i64 (n : Int), .int .i64 xb, .int .i64 xk] 39)) := (by repeat (first | with_reducible exact Ext.refl _ | with_reducible assumption | with_reducible apply Ext.alloc | with_reducible apply Ext.drew | (with_reducible refine Ext.setCell ?_ (by (try simp) <;> omega) _)))
      have b4_0 := block_new wr (.cells #[.int .i64 (n : Int), .int .i64 xb, .int .i64 xk] 39)
      obtain ⟨W4, hW4⟩ : ∃ W, (wr.alloc (.cells #[.int .i64 (n : Int), .int .i64 xb, .int .i64 xk] 39)) = W := ⟨_, rfl⟩
      obtain ⟨B4, hB4⟩ : ∃ B, wr.heap.size = B := ⟨_, rfl⟩
      rw [hW4] at X4 b4_0
      rw [hB4] at b4_0
      have HZ4 : Hid (wr.heap.size ≤ B4) := Lib.hid (by omega)
      have HW4 := Lib.hid hW4; have HB4 := Lib.hid hB4
      clear hW4 hB4
      obtain ⟨bg, og, ag1, ac1, rfl, gcw, gsw⟩ := G0.out.at n hnN
      have hbg : bg < w.heap.size := lt_of_cell gcw
      have gc := (X.trans X4).cell gcw
      have gs := gsw.ext (X.trans X4)
      have IW := Lib.hid (idxe_walk (.slice ag1 (rows n).length ac1) (rows n) ⟨n, xb, xk⟩ B4 W4 gs b4_0)
      have j1 : (0 : Int) ≤ (n : Int) := by omega
      have j2 : (n : Int) < (N : Int) := by omega
      have hl1 : B0 + 1 < wr.heap.size := (Array.getElem?_eq_some_iff.1 h1).1
      have H04 := Lib.hid (block_ext X4 h0); have H14 := Lib.hid (block_ext X4 h1); have HB4X := Lib.hid b4_0; have HX4 := Lib.hid (X.trans X4)
      have gc0 := gc
      rw [← HW4.out] at gc0
      obtain ⟨q, hq⟩ : ∃ q, (rows n).findIdx? (fun e => decide (e.st = ⟨n, xb, xk⟩)) = q := ⟨_, rfl⟩
      rw [hq] at IW
      have HQ := Lib.hid hq
      have HGC := Lib.hid gc; have HGS := Lib.hid gsw
      clear hq gc gcw gsw gs h0 h1 b4_0 X X4
      go_wp2_with fail
      rw [HW4.out, HB4.out]
      clear gc0 q0 q1 q2 t0 t1 c2 c3
      refine IW.out.mono ?_
      rintro e w5 ⟨rfl, x5⟩
      cases q with
      | none =>
        simp only [idxE]
        have HF : Hid (P = none) := Lib.hid (by rw [← HPP.out, HDR.out, prodR, if_neg HGOOD.out]; simp only [Int.toNat_natCast, idx_none HQ.out])
        have HR5 := Lib.hid (block_ext x5 H04.out)
        have n2 := setRow_at HR5.out #[.int .i64 0, .int .i64 0, .int .i64 0, .int .i64 0, .int .i64 0, .int .i64 0]
        have XX := Lib.hid ((HX4.out.trans x5).setRow (g := B0) HZ0.out #[.int .i64 0, .int .i64 0, .int .i64 0, .int .i64 0, .int .i64 0, .int .i64 0])
        have e0 := block_cell n2 0 _ rfl; have e1 := block_cell n2 1 _ rfl; have e2 := block_cell n2 2 _ rfl; have e3 := block_cell n2 3 _ rfl; have e4 := block_cell n2 4 _ rfl; have e5 := block_cell n2 5 _ rfl
        clear n2 x5
        go_wp2_with (first | (refine wpList_store_row rfl _ _ _ rfl B0 _ rfl rfl _ _ HR5.out (by kernel_rfl) rfl (by simp [Value.oneCell']) ?_) | fail)
        refine bodyPost_ret (v := .tuple #[.agg #[.int .i64 0, .int .i64 0, .int .i64 0, .int .i64 0, .int .i64 0, .int .i64 0], .int .i64 1]) (by simp [results, Tryz.results45, go_sem, e0, e1, e2, e3, e4, e5]) rfl ⟨by rw [HF.out]; rfl, XX.out⟩
      | some ii =>
        simp only [idxE]
        obtain ⟨hii, hfi⟩ := idx_find HQ.out
        obtain ⟨p, hp⟩ : ∃ p, (rows n)[ii] = p := ⟨_, rfl⟩
        rw [hp] at hfi
        have hpm : p ∈ rows n := by rw [← hp]; exact List.getElem_mem hii
        obtain ⟨u, hu⟩ : ∃ u, v.add p.v 1 = u := ⟨_, rfl⟩
        have hus : Sml (16 * (k + 1 : Nat)) u := by
          rw [← hu]
          exact (hv.add (HS.out n p hpm) (.inl rfl)).mono (by omega)
        have HPN : Hid (prodR rows N (steps.drop (k + 1)) xb u = P) := Lib.hid (by
          rw [← HPP.out, HDR.out, prodR, if_neg HGOOD.out]
          simp only [Int.toNat_natCast, hfi, hu])
        have CA := Lib.hid fun w' => cadd_walk v p.v (hv.mono (by omega)) ((HS.out n p hpm).mono (by omega)) w'
        rw [hu] at CA
        have HUS := Lib.hid hus
        obtain ⟨be, oe, ee, r0, r1, r2, r3, r4, r5, r6, r7, r8⟩ := Sl.ed HGS.out ii hii
        subst ee
        have hbe : be < w.heap.size := lt_of_cell r0
        have X5 := HX4.out.trans x5
        rw [hp] at r3 r4 r5 r6 r7 r8
        have gc5 := x5.cell HGC.out
        have hbx5 := block_ext x5 HB4X.out
        have h15 := block_ext x5 H14.out
        have h05 := Lib.hid (block_ext x5 H04.out)
        have hB4 := HZ4.out
        have hB0 := HZ0.out
        have r3 := X5.cell r3; have r4 := X5.cell r4; have r5 := X5.cell r5; have r6 := X5.cell r6; have r7 := X5.cell r7; have r8 := X5.cell r8
        have m51 := ks_cells (S := [B0 + 1]) gc5 (by show bg ∉ _; simp; omega)
        have s0 := ks_cells (S := [B0 + 1]) (block_cell hbx5 0 _ rfl) (by show B4 ∉ _; simp; omega)
        have s1 := ks_cells (S := [B0 + 1]) (block_cell hbx5 1 _ rfl) (by show B4 ∉ _; simp; omega)
        have m3 := ks_cells (S := [B0 + 1]) r3 (by show be ∉ _; simp; omega)
        have m4 := ks_cells (S := [B0 + 1]) r4 (by show be ∉ _; simp; omega)
        have m5 := ks_cells (S := [B0 + 1]) r5 (by show be ∉ _; simp; omega)
        have m6 := ks_cells (S := [B0 + 1]) r6 (by show be ∉ _; simp; omega)
        have m7 := ks_cells (S := [B0 + 1]) r7 (by show be ∉ _; simp; omega)
        have m8 := ks_cells (S := [B0 + 1]) r8 (by show be ∉ _; simp; omega)
        have k1 : (0 : Int) ≤ (ii : Int) := by omega
        have k2 : (ii : Int) < ((rows n).length : Int) := by omega
        have HX5 := Lib.hid (HX4.out.trans x5)
        have H15 := Lib.hid h15
        clear r0 r1 r2 r3 r4 r5 r6 r7 r8 hu hus hp hfi x5 X5 hpm gc5 hbx5 h15
        go_wp2_with fail
        apply Y.wp_region_ordY [(1, .det _), (2, .det _), (3, .det _), (4, .det _), (5, .det _), (6, .det _), (7, .det _), (8, .det _), (9, .det _), (11, .det _), (12, .det _), (0, .one (fun z => z = .agg (#[.int .i64 v.a, .int .i64 v.b, .int .i64 v.c, .int .i64 v.d, .int .i64 v.e, .int .i64 v.f] : Array Value)) (fun _ W => W.heap[B0 + 1]? = some (.cells (#[.int .i64 v.a, .int .i64 v.b, .int .i64 v.c, .int .i64 v.d, .int .i64 v.e, .int .i64 v.f] : Array Value) 32 (0, 0))) _ rfl), (10, .det _), (13, .one (fun _ => True) (fun _ W => W.heap[B0 + 1]? = some (.cells (#[.int .i64 u.a, .int .i64 u.b, .int .i64 u.c, .int .i64 u.d, .int .i64 u.e, .int .i64 u.f] : Array Value) 32 (0, 0))) undef trivial)]
          14 Ext (Ks [B0 + 1]) (Ks [B0 + 1] w5) (fun W => W.heap[B0 + 1]? = some (.cells (#[.int .i64 v.a, .int .i64 v.b, .int .i64 v.c, .int .i64 v.d, .int .i64 v.e, .int .i64 v.f] : Array Value) 32 (0, 0))) wide
          [(1,true),(2,true),(3,true),(4,true),(5,true),(6,true),(7,true),(8,true),(9,true),(11,true),(12,true),(0,false),(10,true),(13,false)] [(1,[]),(2,[]),(3,[]),(4,[]),(5,[]),(6,[]),(7,[]),(8,[]),(9,[]),(11,[]),(12,[]),(0,[]),(10,[]),(13,[])] (by kernel_rfl) (by kernel_rfl) rfl rfl (by simp [Y.Kd.new, Y.Kd.det, Y.Kd.one, Y.kdOf]) (by decide) (sub_ks _) (stable_ks _ _) stable_blk (Ks.drawn _ _ _) (block_ext (Ext.drawn _ _) H15.out) ?mainP
        case mainP =>
          iterate 11 (apply Y.ordX_det rfl rfl; (intro w' hw'; unfold opR; go_simp; exact ⟨Ext.refl _, rfl⟩); (simp only [List.getElem_toArray, List.getElem_cons_succ, List.getElem_cons_zero, Act.put, List.setIfInBounds_toArray, List.set_cons_succ, List.set_cons_zero]; rfl))
          apply Y.ordX_one (fun _ => stable_blk) rfl rfl
          · intro w' hw' hC _
            have c0 := block_cell hC 0 _ rfl; have c1 := block_cell hC 1 _ rfl; have c2 := block_cell hC 2 _ rfl; have c3 := block_cell hC 3 _ rfl; have c4 := block_cell hC 4 _ rfl; have c5 := block_cell hC 5 _ rfl
            unfold opR
            go_simp
            exact ⟨Ks.refl _ _, rfl, hC⟩
          · intro z; (simp only [List.getElem_toArray, List.getElem_cons_succ, List.getElem_cons_zero, Act.put, List.setIfInBounds_toArray, List.set_cons_succ, List.set_cons_zero]; rfl)
          rintro z0 rfl
          (apply Y.ordX_det rfl rfl; (intro w' hw'; refine opR_call rfl (Go.Proofs.enters_of Tryz.func44 (by kernel_rfl) rfl) (by simp only [List.map_toArray, List.map_cons, List.map_nil, Act.eval, Array.getD_eq_getD_getElem?, List.getElem?_toArray, List.getElem?_cons_succ, List.getElem?_cons_zero, Option.getD_some]; rfl) ?_; refine (CA.out _).mono ?_; rintro e w'' ⟨rfl, hx⟩; exact ⟨_, rfl, hx, rfl⟩); (simp only [List.getElem_toArray, List.getElem_cons_succ, List.getElem_cons_zero, Act.put, List.setIfInBounds_toArray, List.set_cons_succ, List.set_cons_zero]; rfl))
          apply Y.ordX_one (fun _ => stable_blk) rfl rfl
          · intro w' hw' hC _
            refine opR_store_row _ _ _ rfl (B0 + 1) #[.int .i64 u.a, .int .i64 u.b, .int .i64 u.c, .int .i64 u.d, .int .i64 u.e, .int .i64 u.f] rfl rfl _ _ hC (by kernel_rfl) rfl (by simp [Value.oneCell']) ?_
            exact ⟨(Ks.refl _ _).setRow (.inl (by simp)) _, trivial, setRow_at hC _⟩
          · intro z; (simp only [List.getElem_toArray, List.getElem_cons_succ, List.getElem_cons_zero, Act.put, List.setIfInBounds_toArray, List.set_cons_succ, List.set_cons_zero]; rfl)
          intro v13 _
          refine Y.ordX_nil rfl ?_
          rintro wz hwz hC -
          have HCZ := Lib.hid hC
          have H0Z := Lib.hid (hwz.at h05.out (by simp))
          have XZ := Lib.hid (show Ext w wz from Below.trans HX5.out (hwz.below (by have := HX5.out.size; omega) (fun b hb => by simp at hb; omega)))
          clear hwz hC m51 s0 s1 m3 m4 m5 m6 m7 m8
          go_wp2
          go_roundw
          case rel => exact ⟨k + 1, _, u, by omega, by go_num, rfl, HPN.out, HUS.out, H0Z.out, HCZ.out, XZ.out⟩
          case measure => simp [intOf] <;> omega
    · obtain rfl : k = L1 + 1 := by omega
      rw [List.drop_eq_nil_of_le (by rw [HLL.out]; omega), prodR] at hp
      subst hp
      have HRR := Lib.hid h0
      have n2 := setRow_at h0 (#[.int .i64 v.a, .int .i64 v.b, .int .i64 v.c, .int .i64 v.d, .int .i64 v.e, .int .i64 v.f] : Array Value)
      have XX := X.setRow (g := B0) HZ0.out (#[.int .i64 v.a, .int .i64 v.b, .int .i64 v.c, .int .i64 v.d, .int .i64 v.e, .int .i64 v.f] : Array Value)
      have c0 := block_cell h1 0 _ rfl; have c1 := block_cell h1 1 _ rfl; have c2 := block_cell h1 2 _ rfl; have c3 := block_cell h1 3 _ rfl; have c4 := block_cell h1 4 _ rfl; have c5 := block_cell h1 5 _ rfl
      have e0 := block_cell n2 0 _ rfl; have e1 := block_cell n2 1 _ rfl; have e2 := block_cell n2 2 _ rfl; have e3 := block_cell n2 3 _ rfl; have e4 := block_cell n2 4 _ rfl; have e5 := block_cell n2 5 _ rfl
      clear h0 h1 X n2
      go_wp2_with (first | (refine wpList_store_row rfl _ _ _ rfl B0 _ rfl rfl _ _ HRR.out (by kernel_rfl) rfl (by simp [Value.oneCell']) ?_) | fail)
      refine bodyPost_ret (v := .tuple #[.agg #[.int .i64 v.a, .int .i64 v.b, .int .i64 v.c, .int .i64 v.d, .int .i64 v.e, .int .i64 v.f], .int .i64 0]) (by simp [results, Tryz.results45, go_sem, e0, e1, e2, e3, e4, e5]) rfl ⟨rfl, XX⟩
end Go.Proofs.YtgfaiihekibcbaaGreatDoor
