/-
  Walks: report.Ints, Leaf, Root; the reference's Sum, Bytes, Ints, Leaf, Node, Split, Top, Root.
-/
import Derived.Test.YteelklpppfahcaaRepB
namespace Go.Proofs.Yteelklpppfahcaa
open Go.RowKit Go.Sx Go.Sx.Rep

def encI (x : Int) : List Value := [.int .i64 x]

set_option maxHeartbeats 1000000 in
theorem ints_walk (lv : Value) (l : List Int) (w : World) (S : Sl w 1 encI lv l) (hn : l.length * 8 ≤ 140737488351232) :
    Calls Try.prog 24 #[lv] w fun e w' => e = .returned (.int .u64 (intsF l)) ∧ Ext w w' := by
  obtain ⟨a?, cap, rfl, h1, h2, h3⟩ := S.len
  clear h1 h2
  go_enter Try.func24, Try.ntmps24
  go_wp2
  go_loopw [3, 8] (fun v i wr => ∃ k : Nat, k ≤ l.length ∧ i = .int .i64 k ∧ OwnR wr w.heap.size 5 1 encB v ((l.take k).flatMap fun n => be8 (IntKind.u64.wrap n)) ∧ Ext w wr)
                 (fun _ i _ => l.length - (intOf i).toNat)
  case atStart => exact ⟨0, Nat.zero_le _, rfl, OwnR.nil, Ext.refl _⟩
  case round =>
    obtain ⟨k, hk, rfl, hown, hx⟩ := hrel
    have hlen := intsF_len (l.take k)
    rw [List.length_take, Nat.min_eq_left hk] at hlen
    have HL := Lib.hid hlen
    clear hlen
    by_cases hlt : k < l.length
    · obtain ⟨b0, o0, rfl, hc⟩ := (S.ext hx).at1 k hlt
      simp only [encI, List.getD_cons_zero] at hc
      have hf := Lib.hid (ints_take l k hlt)
      have hsz := hx.size
      clear S
      have ol := own_lit (enc := encU) (B := w.heap.size) (e := 24) (sz := 1) wr #[.int .u64 (IntKind.u64.wrap l[k])] [IntKind.u64.wrap l[k]] 1 rfl hsz rfl rfl (by simp [maxLen])
      have sl := ol.sl (by simp [encU]) (by simp)
      have hown1 := hown.alloc (.cells #[.int .u64 (IntKind.u64.wrap l[k])] 24)
      clear ol
      go_wp2_with (go_at_call 43; go_must (refine (words_walk w.heap.size _ _ _ [IntKind.u64.wrap l[k]] _ (by simp; omega) hown1 ⟨sl, fun _ a n c e => (by cases e; intro h; have := World.ownsRow.lt hown _ h; simp at this <;> omega)⟩ (by rw [HL.out]; simp; omega)).mono ?_); rintro e w2 ⟨v', rfl, hown', hb⟩)
      have hx' : Ext w w2 := Below.trans (hx.alloc _) hb
      simp only [List.flatMap_cons, List.flatMap_nil, List.append_nil] at hown'
      go_roundw
      case rel => exact ⟨k + 1, by omega, by go_num, by rw [hf.out]; exact hown', hx'⟩
      case measure => simp [intOf]; omega
    · obtain rfl : k = l.length := by omega
      have hs := hown.sl (by simp [encB]) (by rw [HL.out]; omega)
      rw [List.take_length] at hs
      clear S
      go_wp2_with (go_at_call 11; go_must (refine (sum_walk _ _ _ hs).mono ?_); rintro e w2 ⟨rfl, rfl⟩)
      go_ret
      exact ⟨rfl, hx⟩

set_option maxHeartbeats 400000 in
theorem leaf_walk (p v b : Int) (w : World) :
    Calls Try.prog 26 #[.agg #[.int .i64 p, .int .i64 v, .int .i64 b]] w fun e w' => e = .returned (.int .u64 (leafF p v b)) ∧ Ext w w' := by
  have ol := own_lit (enc := encI) (B := w.heap.size) (e := 3) (sz := 1) (w.alloc (.cells #[.int .i64 p, .int .i64 v, .int .i64 b] 51)) #[.int .i64 0, .int .i64 p, .int .i64 v, .int .i64 b] [0, p, v, b] 4 rfl (by simp) rfl rfl (by simp [maxLen])
  have sl := ol.sl (by simp [encI]) (by simp)
  simp only [World.size_alloc] at sl
  clear ol
  go_enter Try.func26, Try.ntmps26
  go_wp2_with (go_at_call 24; go_must (refine (ints_walk _ _ _ sl (by simp)).mono ?_); rintro e w2 ⟨rfl, hx⟩)
  go_ret
  exact ⟨rfl, Ext.trans (((Ext.refl w).alloc _).alloc _) hx⟩

set_option maxHeartbeats 400000 in
theorem rsum_walk (v : Value) (xs : List Int) (w : World) (S : Sl w 1 encB v xs) :
    Calls Try.prog 23 #[v] w fun e w' => e = .returned (.int .u64 (fnv xs)) ∧ w = w' := by
  obtain ⟨a?, cap, rfl, h1, h2, h3⟩ := S.len
  clear h1 h2
  go_enter Try.func23, Try.ntmps23
  go_wp2
  go_loop [3, 4] (fun h i => ∃ k : Nat, k ≤ xs.length ∧ i = .int .i64 k ∧ h = .int .u64 (fnv (xs.take k)))
                 (fun _ i => xs.length - (intOf i).toNat)
  case atStart => exact ⟨0, Nat.zero_le _, rfl, rfl⟩
  case round =>
    obtain ⟨k, hk, rfl, rfl⟩ := hrel
    by_cases hlt : k < xs.length
    · obtain ⟨b0, o0, rfl, hc⟩ := S.at1 k hlt
      simp only [encB, List.getD_cons_zero] at hc
      have hf := Lib.hid (fnv_take xs k hlt)
      clear S
      go_wp2
      go_round
      case rel => exact ⟨k + 1, by omega, by go_num, by rw [hf.out]; rfl⟩
      case measure => simp [intOf]; omega
    · clear S
      go_wp2
      go_ret
      exact ⟨by rw [List.take_of_length_le (by omega)]; rfl, rfl⟩

set_option maxHeartbeats 1000000 in
theorem rbytes_walk (B : Nat) (v : Value) (bs : List Int) (x : Int) (w : World) (hB : B ≤ w.heap.size) (hv : OwnR w B 5 1 encB v bs) (hlen : bs.length + 8 ≤ 140737488351232) :
    Calls Try.prog 44 #[v, .int .u64 x] w fun e w' => ∃ v', e = .returned v' ∧ OwnR w' B 5 1 encB v' (bs ++ be8 x) ∧ Below B w w' := by
  go_enter Try.func44, Try.ntmps44
  go_wp2
  go_loopw [0, 5] (fun v i wi => ∃ m : Nat, m ≤ 8 ∧ i = .int .i64 (m : Int) ∧ OwnR wi B 5 1 encB v (bs ++ (be8 x).take m) ∧ Below B w wi)
                 (fun _ i _ => 8 - (intOf i).toNat)
  case atStart => exact ⟨0, by omega, rfl, by simpa using hv, Below.refl _ _⟩
  case round =>
    obtain ⟨m, hm, rfl, hown1, hb1⟩ := hrel
    have hL : (bs ++ (be8 x).take m).length = bs.length + m := by simp [be8_len]; omega
    have HL := Lib.hid hL
    clear hL
    by_cases hm8 : m < 8
    · have h0 : (8 : Int) * m ≤ 56 := by omega
      have h0' : ¬ ((56 : Int) < 8 * m) := by omega
      have hbt := Lib.hid (be8_take x m hm8)
      go_wp2_with (at_builtin; go_must (refine wpList_own1 et_u8 rfl _ _ rfl hown1 rfl (byteAt x (56 - 8 * m)) rfl rfl rfl (by simp [encB, Value.oneCell']) (by rw [HL.out]; omega) (by have := hb1.size; omega) ?_; intro v' w1 hown' hb' happ _))
      go_roundw
      case rel => exact ⟨m + 1, by omega, by go_num, by rw [hbt.out, ← List.append_assoc]; exact hown', hb1.trans hb'⟩
      case measure => simp [intOf]; omega
    · obtain rfl : m = 8 := by omega
      go_wp2
      go_ret
      exact ⟨_, rfl, hown1, hb1⟩

set_option maxHeartbeats 1000000 in
theorem rints_walk (lv : Value) (l : List Int) (w : World) (S : Sl w 1 encI lv l) (hn : l.length * 8 ≤ 140737488351232) :
    Calls Try.prog 25 #[lv] w fun e w' => e = .returned (.int .u64 (intsF l)) ∧ Ext w w' := by
  obtain ⟨a?, cap, rfl, h1, h2, h3⟩ := S.len
  clear h1 h2
  go_enter Try.func25, Try.ntmps25
  go_wp2
  go_loopw [3, 4] (fun v i wr => ∃ k : Nat, k ≤ l.length ∧ i = .int .i64 k ∧ OwnR wr w.heap.size 5 1 encB v ((l.take k).flatMap fun n => be8 (IntKind.u64.wrap n)) ∧ Ext w wr)
                 (fun _ i _ => l.length - (intOf i).toNat)
  case atStart => exact ⟨0, Nat.zero_le _, rfl, OwnR.nil, Ext.refl _⟩
  case round =>
    obtain ⟨k, hk, rfl, hown, hx⟩ := hrel
    have hlen := intsF_len (l.take k)
    rw [List.length_take, Nat.min_eq_left hk] at hlen
    have HL := Lib.hid hlen
    clear hlen
    by_cases hlt : k < l.length
    · obtain ⟨b0, o0, rfl, hc⟩ := (S.ext hx).at1 k hlt
      simp only [encI, List.getD_cons_zero] at hc
      have hf := Lib.hid (ints_take l k hlt)
      have hsz := hx.size
      clear S
      go_wp2_with (go_at_call 44; go_must (refine (rbytes_walk w.heap.size _ _ (IntKind.u64.wrap l[k]) _ hsz hown (by rw [HL.out]; omega)).mono ?_); rintro e w2 ⟨v', rfl, hown', hb⟩)
      have hx' : Ext w w2 := Below.trans hx hb
      go_roundw
      case rel => exact ⟨k + 1, by omega, by go_num, by rw [hf.out]; exact hown', hx'⟩
      case measure => simp [intOf]; omega
    · obtain rfl : k = l.length := by omega
      have hs := hown.sl (by simp [encB]) (by rw [HL.out]; omega)
      rw [List.take_length] at hs
      clear S
      go_wp2_with (go_at_call 23; go_must (refine (rsum_walk _ _ _ hs).mono ?_); rintro e w2 ⟨rfl, rfl⟩)
      go_ret
      exact ⟨rfl, hx⟩

set_option maxHeartbeats 400000 in
theorem rleaf_walk (p v b : Int) (w : World) :
    Calls Try.prog 27 #[.agg #[.int .i64 p, .int .i64 v, .int .i64 b]] w fun e w' => e = .returned (.int .u64 (leafF p v b)) ∧ Ext w w' := by
  have ol := own_lit (enc := encI) (B := w.heap.size) (e := 3) (sz := 1) (w.alloc (.cells #[.int .i64 p, .int .i64 v, .int .i64 b] 51)) #[.int .i64 0, .int .i64 p, .int .i64 v, .int .i64 b] [0, p, v, b] 4 rfl (by simp) rfl rfl (by simp [maxLen])
  have sl := ol.sl (by simp [encI]) (by simp)
  simp only [World.size_alloc] at sl
  clear ol
  go_enter Try.func27, Try.ntmps27
  go_wp2_with (go_at_call 25; go_must (refine (rints_walk _ _ _ sl (by simp)).mono ?_); rintro e w2 ⟨rfl, hx⟩)
  go_ret
  exact ⟨rfl, Ext.trans (((Ext.refl w).alloc _).alloc _) hx⟩

set_option maxHeartbeats 400000 in
theorem rnode_walk (a b : Int) (w : World) :
    Calls Try.prog 28 #[.int .u64 a, .int .u64 b] w fun e w' => e = .returned (.int .u64 (node a b)) ∧ Ext w w' := by
  have o1 := own_lit (enc := encB) (B := w.heap.size) (e := 5) (sz := 1) w #[.int .u8 1] [1] 1 rfl (Nat.le_refl _) rfl rfl (by simp [maxLen])
  go_enter Try.func28, Try.ntmps28
  go_wp2_with fail
  refine (rbytes_walk w.heap.size _ _ a _ (by simp) o1 (by simp)).mono ?_
  rintro e w1 ⟨v1, rfl, own1, hb1⟩
  go_wp2_with fail
  refine (rbytes_walk w.heap.size _ _ b _ (by have := hb1.size; simp at this; omega) own1 (by simp [be8_len])).mono ?_
  rintro e w2 ⟨v2, rfl, own2, hb2⟩
  have hs := own2.sl (by simp [encB]) (by simp [be8_len])
  clear o1 own1 own2
  go_wp2_with (go_at_call 23; go_must (refine (rsum_walk _ _ _ hs).mono ?_); rintro e w3 ⟨rfl, rfl⟩)
  go_ret
  refine ⟨by simp [node], ?_⟩
  exact Below.trans (Below.trans ((Ext.refl w).alloc _) hb1) hb2

set_option maxHeartbeats 400000 in
theorem rsplit_walk (n : Nat) (w : World) (h1 : 1 < n) (h2 : n ≤ 140737488351232) :
    Calls Try.prog 21 #[.int .i64 n] w fun e w' => e = .returned (.int .i64 ((split n : Nat) : Int)) ∧ w = w' := by
  go_enter Try.func21, Try.ntmps21
  go_wp2
  go_loop [3] (fun t => ∃ k : Nat, 1 ≤ k ∧ k < n ∧ Hid (splitF n k n = split n) ∧ t = .int .i64 k) (fun t => n - (intOf t).toNat)
  case atStart => exact ⟨1, by omega, by omega, Lib.hid rfl, rfl⟩
  case round =>
    obtain ⟨k, hk, hk2, HS, rfl⟩ := hrel
    by_cases hlt : 2 * k < n
    · have hlt' : (2 : Int) * k < n := by omega
      go_wp2
      go_round
      case rel => exact ⟨2 * k, by omega, by omega, Lib.hid (by rw [← splitF_step k _ (by omega) hlt]; exact HS.out), congrArg (Value.int .i64) (by omega)⟩
      case measure => simp [intOf]; omega
    · have hlt' : (n : Int) ≤ 2 * k := by omega
      have hf := splitF_stop k n (by omega) hlt
      have HK := Lib.hid (show k = split n by rw [← HS.out, hf])
      clear hf
      go_wp2
      go_ret
      exact ⟨by rw [← HK.out]; rfl, rfl⟩
end Go.Proofs.Yteelklpppfahcaa
