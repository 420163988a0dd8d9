/-
  Walks: slices.IndexFunc and ContainsFunc with closures at integers and at intervals; potential.ranged.
-/
import Derived.Test.YtdpegkkbhanjkaaDoorPlC
set_option linter.unusedVariables false
namespace Go.Proofs.YtdpegkkbhanjkaaDoor
open Go.RowKit Go.Sx Go.Sx.Sz Go.Sx.Sc Go.Sx.Po

def idxI : Option Nat → Int
  | some k => k
  | none => -1
theorem idx_hit {α : Type} {l : List α} {p : α → Bool} {k : Nat} (hlt : k < l.length) (h1 : p l[k] = true) (h2 : ∀ x ∈ l.take k, p x = false) : l.findIdx? p = some k := by
  rw [List.findIdx?_eq_some_iff_getElem]
  refine ⟨hlt, h1, fun j hj => ?_⟩
  have := h2 l[j] (List.mem_take_iff_getElem.2 ⟨j, by omega, rfl⟩)
  simpa using this
theorem idx_miss {α : Type} {l : List α} {p : α → Bool} (h2 : ∀ x ∈ l.take l.length, p x = false) : l.findIdx? p = none := by
  rw [List.findIdx?_eq_none_iff]
  rw [List.take_length] at h2
  exact h2
theorem take_next {α : Type} {l : List α} {p : α → Bool} {k : Nat} (hlt : k < l.length) (h1 : p l[k] = false) (h2 : ∀ x ∈ l.take k, p x = false) : ∀ x ∈ l.take (k + 1), p x = false := fun x hx => by
  rw [List.take_succ_eq_append_getElem hlt, List.mem_append, List.mem_singleton] at hx
  rcases hx with hx | rfl
  · exact h2 x hx
  · exact h1
theorem idx_any {α : Type} {l : List α} {p : α → Bool} : l.any p = decide (0 ≤ idxI (l.findIdx? p)) := by
  cases hf : l.findIdx? p with
  | none =>
    rw [show decide (0 ≤ idxI none) = false from rfl, List.any_eq_false]
    intro x hx
    have := (List.findIdx?_eq_none_iff.1 hf) x hx
    simp [this]
  | some j =>
    rw [show decide (0 ≤ idxI (some j)) = true from decide_eq_true (by show (0 : Int) ≤ (j : Int); omega)]
    obtain ⟨hj, hp, _⟩ := List.findIdx?_eq_some_iff_getElem.1 hf
    exact List.any_eq_true.2 ⟨_, List.getElem_mem hj, hp⟩
def inR32 (x : Int) : Bool := decide (-32 ≤ x) && decide (x ≤ 32)
theorem within32 (v : V6) : within v 32 = !([v.a, v.b, v.c, v.d, v.e, v.f].any fun x => !inR32 x) := by
  rw [Bool.eq_iff_iff, Sz.within_iff, Bool.not_eq_true', List.any_eq_false]
  unfold inR32
  constructor
  · intro h x hx
    have h0 := h 0 (by omega); have h1 := h 1 (by omega); have h2 := h 2 (by omega); have h3 := h 3 (by omega); have h4 := h 4 (by omega); have h5 := h 5 (by omega)
    change -32 ≤ v.a ∧ v.a ≤ 32 at h0; change -32 ≤ v.b ∧ v.b ≤ 32 at h1; change -32 ≤ v.c ∧ v.c ≤ 32 at h2; change -32 ≤ v.d ∧ v.d ≤ 32 at h3; change -32 ≤ v.e ∧ v.e ≤ 32 at h4; change -32 ≤ v.f ∧ v.f ≤ 32 at h5
    simp only [List.mem_cons, List.not_mem_nil, or_false] at hx
    have : -32 ≤ x ∧ x ≤ 32 := by rcases hx with rfl | rfl | rfl | rfl | rfl | rfl <;> assumption
    simp [this]
  · intro h k hk
    have hk' : v.get k ∈ [v.a, v.b, v.c, v.d, v.e, v.f] := by rcases lt6 hk with rfl | rfl | rfl | rfl | rfl | rfl <;> simp [V6.get]
    have := h _ hk'
    simpa using this

set_option maxRecDepth 100000 in
set_option maxHeartbeats 2000000 in
theorem idxN_walk (v : Value) (l : List Int) (fn : Nat) (p : Int → Bool) (w : World) (S : Sl w 1 encZ v l)
    (hen : ∀ args w, (callFunc fn args).run Tryd.prog w = .ok (.enter fn args) w)
    (hcall : ∀ x ∈ l, ∀ w', Ext w w' → Calls Tryd.prog fn #[.int .i64 x] w' fun e w'' => e = .returned (.bool (p x)) ∧ Ext w' w'') :
    Calls Tryd.prog 85 #[v, .func (.func fn) #[] #[]] w fun e w' => e = .returned (.int .i64 (idxI (l.findIdx? p))) ∧ Ext w w' := by
  obtain ⟨a?, cap, rfl, h1, h2, h3⟩ := S.len
  clear h1 h2
  have HC := Lib.hid hcall; clear hcall
  go_enter Tryd.func85, Tryd.ntmps85
  go_wp2
  go_loopw [8] (fun i wr => ∃ k : Nat, k ≤ l.length ∧ i = .int .i64 k ∧ (∀ x ∈ l.take k, p x = false) ∧ Ext w wr) (fun i _ => l.length - (intOf i).toNat)
  case atStart => exact ⟨0, by omega, by first | rfl | trivial, fun x hx => by simp at hx, Ext.refl _⟩
  case round =>
    obtain ⟨k, hk, rfl, hno, X⟩ := hrel
    have HN := Lib.hid hno; clear hno
    by_cases hlt : k < l.length
    · obtain ⟨b, o, rfl, q0⟩ := Sl.num (S.ext X) k hlt
      obtain ⟨y, hy⟩ : ∃ y, l[k] = y := ⟨_, rfl⟩
      rw [hy] at q0
      have HX := Lib.hid X
      have CY := HC.out y (by rw [← hy]; exact List.getElem_mem _) wr X
      have HY := Lib.hid hy
      have i1 : (0 : Int) ≤ (k : Int) := by omega
      have i2 : (k : Int) < (l.length : Int) := by omega
      clear hy S
      go_wp2_with fail
      refine CY.mono ?_
      cases hp : p y with
      | true =>
        have hf := idx_hit hlt (by rw [HY.out]; exact hp) HN.out
        have HF := Lib.hid hf
        clear hf hp
        rintro e w1 ⟨rfl, x1⟩
        have X1 := HX.out.trans x1
        clear q0
        go_wp2
        go_ret
        exact ⟨by rw [HF.out]; rfl, X1⟩
      | false =>
        have HT := Lib.hid (take_next hlt (by rw [HY.out]; exact hp) HN.out)
        clear hp
        rintro e w1 ⟨rfl, x1⟩
        have X1 := HX.out.trans x1
        clear q0
        go_wp2
        go_roundw
        case rel => exact ⟨k + 1, by omega, by go_num, HT.out, X1⟩
        case measure => simp [intOf]; omega
    · obtain rfl : k = l.length := by omega
      have HF := Lib.hid (idx_miss HN.out)
      clear S
      go_wp2
      go_ret
      exact ⟨by rw [HF.out]; rfl, X⟩

set_option maxRecDepth 100000 in
set_option maxHeartbeats 1000000 in
theorem hasN_walk (v : Value) (l : List Int) (fn : Nat) (p : Int → Bool) (w : World) (S : Sl w 1 encZ v l)
    (hen : ∀ args w, (callFunc fn args).run Tryd.prog w = .ok (.enter fn args) w)
    (hcall : ∀ x ∈ l, ∀ w', Ext w w' → Calls Tryd.prog fn #[.int .i64 x] w' fun e w'' => e = .returned (.bool (p x)) ∧ Ext w' w'') :
    Calls Tryd.prog 67 #[v, .func (.func fn) #[] #[]] w fun e w' => e = .returned (.bool (l.any p)) ∧ Ext w w' := by
  have HC := Lib.hid hcall; have HE := Lib.hid hen; clear hcall hen
  have HA := Lib.hid (idx_any (l := l) (p := p))
  have NX := Lib.hid (idxN_walk v l fn p w S HE.out HC.out)
  obtain ⟨j, hj⟩ : ∃ j, idxI (l.findIdx? p) = j := ⟨_, rfl⟩
  rw [hj] at HA NX
  clear hj
  go_enter Tryd.func67, Tryd.ntmps67
  go_wp2_with fail
  refine NX.out.mono ?_
  rintro e w1 ⟨rfl, x1⟩
  go_wp2
  go_ret
  exact ⟨by rw [HA.out] <;> rfl, x1⟩

set_option maxRecDepth 100000 in
set_option maxHeartbeats 2000000 in
theorem idxV_walk (v : Value) (l : List V6) (fn : Nat) (p : V6 → Bool) (w : World) (S : Sl w 6 V6.list v l)
    (hen : ∀ args w, (callFunc fn args).run Tryd.prog w = .ok (.enter fn args) w)
    (hcall : ∀ x ∈ l, ∀ w', Ext w w' → Calls Tryd.prog fn #[.agg #[.int .i64 x.a, .int .i64 x.b, .int .i64 x.c, .int .i64 x.d, .int .i64 x.e, .int .i64 x.f]] w' fun e w'' => e = .returned (.bool (p x)) ∧ Ext w' w'') :
    Calls Tryd.prog 64 #[v, .func (.func fn) #[] #[]] w fun e w' => e = .returned (.int .i64 (idxI (l.findIdx? p))) ∧ Ext w w' := by
  obtain ⟨a?, cap, rfl, h1, h2, h3⟩ := S.len
  clear h1 h2
  have HC := Lib.hid hcall; clear hcall
  go_enter Tryd.func64, Tryd.ntmps64
  go_wp2
  go_loopw [8] (fun i wr => ∃ k : Nat, k ≤ l.length ∧ i = .int .i64 k ∧ (∀ x ∈ l.take k, p x = false) ∧ Ext w wr) (fun i _ => l.length - (intOf i).toNat)
  case atStart => exact ⟨0, by omega, by first | rfl | trivial, fun x hx => by simp at hx, Ext.refl _⟩
  case round =>
    obtain ⟨k, hk, rfl, hno, X⟩ := hrel
    have HN := Lib.hid hno; clear hno
    by_cases hlt : k < l.length
    · obtain ⟨b, o, rfl, q0, q1, q2, q3, q4, q5⟩ := Sl.vec (S.ext X) k hlt
      obtain ⟨y, hy⟩ : ∃ y, l[k] = y := ⟨_, rfl⟩
      rw [hy] at q0 q1 q2 q3 q4 q5
      have HX := Lib.hid X
      have CY := HC.out y (by rw [← hy]; exact List.getElem_mem _) wr X
      have HY := Lib.hid hy
      have i1 : (0 : Int) ≤ (k : Int) := by omega
      have i2 : (k : Int) < (l.length : Int) := by omega
      clear hy S
      go_wp2_with fail
      refine CY.mono ?_
      cases hp : p y with
      | true =>
        have hf := idx_hit hlt (by rw [HY.out]; exact hp) HN.out
        have HF := Lib.hid hf
        clear hf hp
        rintro e w1 ⟨rfl, x1⟩
        have X1 := HX.out.trans x1
        clear q0 q1 q2 q3 q4 q5
        go_wp2
        go_ret
        exact ⟨by rw [HF.out]; rfl, X1⟩
      | false =>
        have HT := Lib.hid (take_next hlt (by rw [HY.out]; exact hp) HN.out)
        clear hp
        rintro e w1 ⟨rfl, x1⟩
        have X1 := HX.out.trans x1
        clear q0 q1 q2 q3 q4 q5
        go_wp2
        go_roundw
        case rel => exact ⟨k + 1, by omega, by go_num, HT.out, X1⟩
        case measure => simp [intOf]; omega
    · obtain rfl : k = l.length := by omega
      have HF := Lib.hid (idx_miss HN.out)
      clear S
      go_wp2
      go_ret
      exact ⟨by rw [HF.out]; rfl, X⟩

set_option maxRecDepth 100000 in
set_option maxHeartbeats 1000000 in
theorem hasV_walk (v : Value) (l : List V6) (fn : Nat) (p : V6 → Bool) (w : World) (S : Sl w 6 V6.list v l)
    (hen : ∀ args w, (callFunc fn args).run Tryd.prog w = .ok (.enter fn args) w)
    (hcall : ∀ x ∈ l, ∀ w', Ext w w' → Calls Tryd.prog fn #[.agg #[.int .i64 x.a, .int .i64 x.b, .int .i64 x.c, .int .i64 x.d, .int .i64 x.e, .int .i64 x.f]] w' fun e w'' => e = .returned (.bool (p x)) ∧ Ext w' w'') :
    Calls Tryd.prog 44 #[v, .func (.func fn) #[] #[]] w fun e w' => e = .returned (.bool (l.any p)) ∧ Ext w w' := by
  have HC := Lib.hid hcall; have HE := Lib.hid hen; clear hcall hen
  have HA := Lib.hid (idx_any (l := l) (p := p))
  have NX := Lib.hid (idxV_walk v l fn p w S HE.out HC.out)
  obtain ⟨j, hj⟩ : ∃ j, idxI (l.findIdx? p) = j := ⟨_, rfl⟩
  rw [hj] at HA NX
  clear hj
  go_enter Tryd.func44, Tryd.ntmps44
  go_wp2_with fail
  refine NX.out.mono ?_
  rintro e w1 ⟨rfl, x1⟩
  go_wp2
  go_ret
  exact ⟨by rw [HA.out] <;> rfl, x1⟩
set_option maxRecDepth 100000 in
set_option maxHeartbeats 1000000 in
theorem rgd1_walk (x : Int) (w : World) : Calls Tryd.prog 68 #[.int .i64 x] w fun e w' => e = .returned (.bool (!inR32 x)) ∧ Ext w w' := by
  by_cases h1 : x < -32
  · have t1 : decide (x < -32) = true := decide_eq_true h1
    have HR : Hid (inR32 x = false) := Lib.hid (by unfold inR32; rw [decide_eq_false (by omega)]; rfl)
    clear h1
    go_enter Tryd.func68, Tryd.ntmps68
    go_wp2
    go_ret
    exact ⟨by rw [HR.out] <;> rfl, Ext.refl _⟩
  · have t1 : decide (x < -32) = false := decide_eq_false h1
    by_cases h2 : x ≤ 32
    · have t2 : decide (32 < x) = false := decide_eq_false (by omega)
      have HR : Hid (inR32 x = true) := Lib.hid (by unfold inR32; rw [decide_eq_true (by omega), decide_eq_true h2]; rfl)
      clear h1 h2
      go_enter Tryd.func68, Tryd.ntmps68
      go_wp2
      go_ret
      exact ⟨by rw [HR.out] <;> rfl, Ext.refl _⟩
    · have t2 : decide (32 < x) = true := decide_eq_true (by omega)
      have HR : Hid (inR32 x = false) := Lib.hid (by unfold inR32; rw [decide_eq_false h2, Bool.and_false])
      clear h1 h2
      go_enter Tryd.func68, Tryd.ntmps68
      go_wp2
      go_ret
      exact ⟨by rw [HR.out] <;> rfl, Ext.refl _⟩

set_option maxRecDepth 100000 in
set_option maxHeartbeats 2000000 in
theorem ranged_walk (v : V6) (w : World) : Calls Tryd.prog 49 #[.agg #[.int .i64 v.a, .int .i64 v.b, .int .i64 v.c, .int .i64 v.d, .int .i64 v.e, .int .i64 v.f]] w fun e w' => e = .returned (.bool (within v 32)) ∧ Ext w w' := by
  have X0 : Ext w (w.alloc (.cells (#[.int .i64 v.a, .int .i64 v.b, .int .i64 v.c, .int .i64 v.d, .int .i64 v.e, .int .i64 v.f] : Array Value) 41)) := (by repeat (first | with_reducible exact Ext.refl _ | with_reducible assumption | with_reducible apply Ext.alloc | with_reducible apply Ext.drew | (with_reducible refine Ext.setCell ?_ (by (try simp) <;> omega) _)))
  have b0_0 := block_new w (.cells (#[.int .i64 v.a, .int .i64 v.b, .int .i64 v.c, .int .i64 v.d, .int .i64 v.e, .int .i64 v.f] : Array Value) 41)
  obtain ⟨W0, hW0⟩ : ∃ W, (w.alloc (.cells (#[.int .i64 v.a, .int .i64 v.b, .int .i64 v.c, .int .i64 v.d, .int .i64 v.e, .int .i64 v.f] : Array Value) 41)) = W := ⟨_, rfl⟩
  obtain ⟨B0, hB0⟩ : ∃ B, w.heap.size = B := ⟨_, rfl⟩
  rw [hW0] at X0 b0_0
  rw [hB0] at b0_0
  have HZ0 : Hid (w.heap.size ≤ B0) := Lib.hid (by omega)
  have HW0 := Lib.hid hW0; have HB0 := Lib.hid hB0
  clear hW0 hB0
  have HW := Lib.hid (within32 v)
  have SL : Sl W0 1 encZ (.slice (some ⟨B0, 0, none⟩) 6 6) [v.a, v.b, v.c, v.d, v.e, v.f] := Bk.sl (e := 41) (enc := encZ) (sz := 1) (xs := [v.a, v.b, v.c, v.d, v.e, v.f]) ⟨_, b0_0, rfl⟩ (fun _ _ => rfl) rfl (by simp)
  have NX := Lib.hid (hasN_walk _ _ 68 (fun x => !inR32 x) W0 SL (enters_of Tryd.func68 (by kernel_rfl) rfl) (fun x _ w' _ => rgd1_walk x w'))
  obtain ⟨r, hr⟩ : ∃ r, ([v.a, v.b, v.c, v.d, v.e, v.f].any fun x => !inR32 x) = r := ⟨_, rfl⟩
  rw [hr] at HW NX
  clear b0_0 SL hr
  go_enter Tryd.func49, Tryd.ntmps49
  go_wp2_with fail
  rw [HW0.out, HB0.out]
  clear HW0 HB0
  refine NX.out.mono ?_
  rintro e w1 ⟨rfl, x1⟩
  go_wp2
  go_ret
  exact ⟨by rw [HW.out] <;> rfl, X0.trans x1⟩
end Go.Proofs.YtdpegkkbhanjkaaDoor
