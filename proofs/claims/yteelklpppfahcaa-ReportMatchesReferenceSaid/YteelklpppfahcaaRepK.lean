/-
  The walk of the law's own examples (head).
-/
import Derived.Test.YteelklpppfahcaaRepJ
import Derived.Lib.SlBytesConst
namespace Go.Proofs.Yteelklpppfahcaa
open Go.RowKit Go.Sx Go.Sx.Rep

theorem lit_sl {α : Type} (w : World) {e : TypeId} {sz : Nat} {enc : α → List Value} (cs : Array Value) (xs : List α) (n : Nat) (hn : xs.length = n) (hl : ∀ x ∈ xs, (enc x).length = sz) (hcs : cs.toList = xs.flatMap enc) (hsz : cs.size = n * sz) (hm : n ≤ 1000) :
    Sl (w.alloc (.cells cs e)) sz enc (.slice (some ⟨w.heap.size, 0, none⟩) n n) xs :=
  (own_lit (B := w.heap.size) w cs xs n hn (Nat.le_refl _) hcs hsz (by simp [maxLen]; omega)).sl hl (by omega)

theorem lit_slz {α : Type} (w : World) {e : TypeId} {sz : Nat} {enc : α → List Value} (z : Nat × Nat) (cs : Array Value) (xs : List α) (n : Nat) (hn : xs.length = n) (hl : ∀ x ∈ xs, (enc x).length = sz) (hcs : cs.toList = xs.flatMap enc) (hm : n ≤ 1000) :
    Sl (w.alloc (.cells cs e z)) sz enc (.slice (some ⟨w.heap.size, 0, none⟩) n n) xs := by
  subst hn
  refine ⟨_, _, rfl, Nat.le_refl _, by simp [maxLen]; omega, by omega, fun i hi => ⟨_, rfl, fun j hj => ?_⟩⟩
  have h := flatMap_get hl i j hi hj
  rw [← hcs] at h
  have hh : (w.alloc (.cells cs e z)).heap[w.heap.size]? = some (.cells cs e z) := by
    show (w.heap.push _)[w.heap.size]? = _
    simp
  rw [Addr.add_lit]
  unfold World.cell?
  rw [hh]
  simpa using h

set_option maxRecDepth 100000 in
set_option maxHeartbeats 4000000 in
theorem head_walk (w : World) : Calls Try.prog 10 #[] w fun e w' => e = .returned (.bool true) ∧ Ext w w' := by
  have f1 : rootErr [5, 6, 7] = 0 := by decide +kernel
  have f2 : rootErr [5, 6, 7, 8] = 0 := by decide +kernel
  have f3 : pathErr [5, 6, 7] 1 = 0 := by decide +kernel
  have f4 : growErr [5, 6, 7] 2 = 0 := by decide +kernel
  have f5 : growErr [5, 6, 7, 8] 3 = 0 := by decide +kernel
  have s1 : (fnv [] == 14695981039346656037) = true := by decide +kernel
  have s2 : (fnv [97] == 12638187200555641996) = true := by decide +kernel
  have s3 : (rootV [5, 6, 7] == node (node 5 6) 7) = true := by decide +kernel
  have p1 : decide (pathL [5, 6, 7] 1 = [5, 7]) = true := by decide +kernel
  have p2 : decide (growL [5, 6, 7] 2 = [7]) = true := by decide +kernel
  have p3 : decide (growL [5, 6, 7, 8] 3 = [7, 8, node 5 6]) = true := by decide +kernel
  have q1 : checkF (rootV [5, 6, 7]) 6 1 3 (pathL [5, 6, 7] 1) = true := by decide +kernel
  have q2 : followsF (rootV [5, 6, 7]) (rootV [5, 6, 7, 8]) 3 4 (growL [5, 6, 7, 8] 3) = true := by decide +kernel
  have q3 : followsF (rootV [5, 6, 7]) (rootV [5, 6, 7, 8]) 3 4 (growL [5, 6, 7] 2) = false := by decide +kernel
  obtain ⟨ab, hab⟩ : ∃ x, node 5 6 = x := ⟨_, rfl⟩
  obtain ⟨three, h3⟩ : ∃ x, rootV [5, 6, 7] = x := ⟨_, rfl⟩
  obtain ⟨four, h4⟩ : ∃ x, rootV [5, 6, 7, 8] = x := ⟨_, rfl⟩
  obtain ⟨l1, g1⟩ : ∃ x, pathL [5, 6, 7] 1 = x := ⟨_, rfl⟩
  obtain ⟨l2, g2⟩ : ∃ x, growL [5, 6, 7] 2 = x := ⟨_, rfl⟩
  obtain ⟨l3, g3⟩ : ∃ x, growL [5, 6, 7, 8] 3 = x := ⟨_, rfl⟩
  rw [h3, hab] at s3
  rw [g1] at p1
  rw [g2] at p2
  rw [g3, hab] at p3
  rw [h3, g1] at q1
  rw [h3, h4, g3] at q2
  rw [h3, h4, g2] at q3
  have c1 := Lib.hid f1; have c2 := Lib.hid f2; have c3 := Lib.hid f3; have c4 := Lib.hid f4; have c5 := Lib.hid f5
  have Hab := Lib.hid hab; have H3 := Lib.hid h3; have H4 := Lib.hid h4; have G1 := Lib.hid g1; have G2 := Lib.hid g2; have G3 := Lib.hid g3
  clear f1 f2 f3 f4 f5 hab h3 h4 g1 g2 g3
  have kc := fun (w : World) (C : Array Value) (n c : Nat) => Lib.run_convert_bytes_const (P := Try.prog) w 22 5 C n c Try.underlying22 Try.underlying5
  go_enter Try.func10, Try.ntmps10
  go_wp2_with fail
  refine (node_walk 5 6 _).mono ?_
  rw [Hab.out]
  rintro e w1 ⟨rfl, x1⟩
  have k1 := lit_sl (e := 24) (sz := 1) (enc := encU) w1 #[.int .u64 5, .int .u64 6, .int .u64 7] [5, 6, 7] 3 rfl (by simp [encU]) rfl rfl (by omega)
  go_wp2_with fail
  refine (root_walk _ [5, 6, 7] _ k1).mono ?_
  rw [H3.out, c1.out]
  rintro e w2 ⟨rfl, x2⟩
  clear k1
  have k1 := lit_sl (e := 24) (sz := 1) (enc := encU) w2 #[.int .u64 5, .int .u64 6, .int .u64 7, .int .u64 8] [5, 6, 7, 8] 4 rfl (by simp [encU]) rfl rfl (by omega)
  go_wp2_with fail
  refine (root_walk _ [5, 6, 7, 8] _ k1).mono ?_
  rw [H4.out, c2.out]
  rintro e w3 ⟨rfl, x3⟩
  clear k1
  have k1 := lit_sl (e := 24) (sz := 1) (enc := encU) w3 #[.int .u64 5, .int .u64 6, .int .u64 7] [5, 6, 7] 3 rfl (by simp [encU]) rfl rfl (by omega)
  go_wp2_with fail
  refine (path_walk _ [5, 6, 7] 1 _ k1).mono ?_
  rw [G1.out, c3.out]
  rintro e w4 ⟨pv, rfl, o4, x4⟩
  clear k1
  have k1 := lit_sl (e := 24) (sz := 1) (enc := encU) w4 #[.int .u64 5, .int .u64 6, .int .u64 7] [5, 6, 7] 3 rfl (by simp [encU]) rfl rfl (by omega)
  go_wp2_with fail
  refine (grow_walk _ [5, 6, 7] 2 _ k1).mono ?_
  rw [G2.out, c4.out]
  rintro e w5 ⟨xv, rfl, o5, x5⟩
  clear k1
  have k1 := lit_sl (e := 24) (sz := 1) (enc := encU) w5 #[.int .u64 5, .int .u64 6, .int .u64 7, .int .u64 8] [5, 6, 7, 8] 4 rfl (by simp [encU]) rfl rfl (by omega)
  go_wp2_with fail
  refine (grow_walk _ [5, 6, 7, 8] 3 _ k1).mono ?_
  rw [G3.out, c5.out]
  rintro e w6 ⟨yv, rfl, o6, x6⟩
  clear k1
  -- what has come
  have hl1 : l1.length ≤ 10 := by rw [of_decide_eq_true p1]; simp
  have hl2 : l2.length ≤ 10 := by rw [of_decide_eq_true p2]; simp
  have hl3 : l3.length ≤ 10 := by rw [of_decide_eq_true p3]; simp
  have b3 := x3.alloc (.cells #[.int .u64 5, .int .u64 6, .int .u64 7] 24)
  have b4 := x4
  have y5 : Ext w4 w5 := Ext.trans (Ext.alloc' _ _) x5
  have y6 : Ext w5 w6 := Ext.trans (Ext.alloc' _ _) x6
  have m1 := ((o4.sl (by simp [encU]) (by omega)).ext y5).ext y6
  have m2 := (o5.sl (by simp [encU]) (by omega)).ext y6
  have m3 := o6.sl (by simp [encU]) (by omega)
  have X : Ext w w6 := ((((x1.trans (Ext.trans (Ext.alloc' _ _) x2)).trans (Ext.trans (Ext.alloc' _ _) x3)).trans (Ext.trans (Ext.alloc' _ _) x4)).trans y5).trans y6
  clear o4 o5 o6 b3 b4 y5 y6 x1 x2 x3 x4 x5 x6 hl1 hl2 hl3
  go_wp2_with fail
  refine (sum_walk _ [] _ (Sl.nil _ _ _)).mono ?_
  rintro e w7 ⟨rfl, rfl⟩
  have k1 := lit_slz (e := 5) (sz := 1) (enc := encB) w6 (1, 2) #[.int .u8 97] [97] 1 rfl (by simp [encB]) rfl (by omega)
  go_wp2_with fail
  refine (sum_walk _ [97] _ k1).mono ?_
  rintro e w7 ⟨rfl, rfl⟩
  clear k1
  go_wp2_with fail
  refine (node_walk ab 7 _).mono ?_
  rintro e w7 ⟨rfl, x7⟩
  have k1 := lit_sl (e := 24) (sz := 1) (enc := encU) w7 #[.int .u64 5, .int .u64 7] [5, 7] 2 rfl (by simp [encU]) rfl rfl (by omega)
  clear kc
  have y7 : Ext w6 w7 := Ext.trans (Ext.alloc' _ _) x7
  go_wp2_with fail
  refine (same_walk _ _ l1 [5, 7] _ ((m1.ext y7).ext (Ext.alloc' _ _)) k1).mono ?_
  rw [p1]
  rintro e w8 ⟨rfl, x8⟩
  clear k1
  have y8 : Ext w7 w8 := Ext.trans (Ext.alloc' _ _) x8
  have k1 := lit_sl (e := 24) (sz := 1) (enc := encU) w8 #[.int .u64 7] [7] 1 rfl (by simp [encU]) rfl rfl (by omega)
  go_wp2_with fail
  refine (same_walk _ _ l2 [7] _ (((m2.ext y7).ext y8).ext (Ext.alloc' _ _)) k1).mono ?_
  rw [p2]
  rintro e w9 ⟨rfl, x9⟩
  clear k1
  have y9 : Ext w8 w9 := Ext.trans (Ext.alloc' _ _) x9
  have k1 := lit_sl (e := 24) (sz := 1) (enc := encU) w9 #[.int .u64 7, .int .u64 8, .int .u64 ab] [7, 8, ab] 3 rfl (by simp [encU]) rfl rfl (by omega)
  go_wp2_with fail
  refine (same_walk _ _ l3 [7, 8, ab] _ ((((m3.ext y7).ext y8).ext y9).ext (Ext.alloc' _ _)) k1).mono ?_
  rw [p3]
  rintro e w10 ⟨rfl, x10⟩
  clear k1
  have y10 : Ext w9 w10 := Ext.trans (Ext.alloc' _ _) x10
  have Y := (((y7.trans y8).trans y9).trans y10)
  clear y7 y8 y9 y10 x7 x8 x9 x10
  go_wp2_with fail
  refine (check_walk three 6 1 3 _ l1 _ (m1.ext Y)).mono ?_
  rw [q1]
  rintro e w11 ⟨rfl, x11⟩
  go_wp2_with fail
  refine (follows_walk three four 3 4 _ l3 _ ((m3.ext Y).ext x11)).mono ?_
  rw [q2]
  rintro e w12 ⟨rfl, x12⟩
  go_wp2_with fail
  refine (follows_walk three four 3 4 _ l2 _ (((m2.ext Y).ext x11).ext x12)).mono ?_
  rw [q3]
  rintro e w13 ⟨rfl, x13⟩
  go_wp2
  go_ret
  exact ⟨rfl, (((X.trans Y).trans x11).trans x12).trans x13⟩
end Go.Proofs.Yteelklpppfahcaa
