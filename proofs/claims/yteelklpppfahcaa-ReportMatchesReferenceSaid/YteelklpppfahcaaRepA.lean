/-
  Walks: report.Sum, words, Node, divide, top.
-/
import Derived.Test.YteelklpppfahcaaProg
import Derived.Test.YteelklpppfahcaaLib
import Derived.Test.YteelklpppfahcaaRepM
namespace Go.Proofs.Yteelklpppfahcaa
open Go.RowKit Go.Sx Go.Sx.Rep

def encB (x : Int) : List Value := [.int .u8 x]
def encU (x : Int) : List Value := [.int .u64 x]

set_option maxHeartbeats 400000 in
theorem sum_walk (v : Value) (xs : List Int) (w : World) (S : Sl w 1 encB v xs) :
    Calls Try.prog 11 #[v] w fun e w' => e = .returned (.int .u64 (fnv xs)) ∧ w = w' := by
  obtain ⟨a?, cap, rfl, h1, h2, h3, hs⟩ := S
  clear h1 h2
  go_enter Try.func11, Try.ntmps11
  go_wp2
  go_loop [3, 8] (fun h i => ∃ k : Nat, k ≤ xs.length ∧ i = .int .i64 k ∧ h = .int .u64 (fnv (xs.take k)))
                 (fun _ i => xs.length - (intOf i).toNat)
  case atStart => exact ⟨0, Nat.zero_le _, rfl, rfl⟩
  case round =>
    obtain ⟨k, hk, rfl, rfl⟩ := hrel
    by_cases hlt : k < xs.length
    · obtain ⟨a, rfl, hc⟩ := hs k hlt
      have hc := hc 0 (by omega)
      simp only [Nat.mul_one, Nat.add_zero, encB, List.getD_cons_zero] at hc
      have hf := Lib.hid (fnv_take xs k hlt)
      clear hs
      go_wp2
      go_round
      case rel => exact ⟨k + 1, by omega, by go_num, by rw [hf.out]; rfl⟩
      case measure => simp [intOf]; omega
    · clear hs
      go_wp2
      go_ret
      exact ⟨by rw [List.take_of_length_le (by omega)]; rfl, rfl⟩

set_option maxHeartbeats 400000 in
theorem divide_walk (lo hi : Nat) (w : World) (h1 : lo < hi) (h2 : hi ≤ 140737488351232) :
    Calls Try.prog 48 #[.int .i64 lo, .int .i64 hi] w fun e w' =>
      e = .returned (.agg #[.int .i64 lo, .int .i64 ((lo + split (hi - lo) : Nat) : Int), .int .i64 hi]) ∧ Ext w w' := by
  go_enter Try.func48, Try.ntmps48
  go_wp2
  go_loop [5] (fun t => ∃ k : Nat, 1 ≤ k ∧ k ≤ hi - lo ∧ splitF (hi - lo) k (hi - lo) = split (hi - lo) ∧ t = .int .i64 k) (fun t => hi - lo - (intOf t).toNat)
  case atStart => exact ⟨1, by omega, by omega, rfl, rfl⟩
  case round =>
    obtain ⟨k, hk, hk2, hsp, rfl⟩ := hrel
    have HS := Lib.hid hsp
    clear hsp
    by_cases hlt : 2 * k < hi - lo
    · have hlt' : (2 : Int) * k < hi - lo := by omega
      go_wp2
      go_round
      case rel => exact ⟨2 * k, by omega, by omega, by rw [← splitF_step k _ (by omega) hlt]; exact HS.out, congrArg (Value.int .i64) (by omega)⟩
      case measure => simp [intOf]; omega
    · have hlt' : (hi : Int) - lo ≤ 2 * k := by omega
      have hf := splitF_stop k (hi - lo) (by omega) hlt
      have hk' : k = split (hi - lo) := by rw [← HS.out, hf]
      clear hf
      have HK := Lib.hid hk'
      clear hk'
      go_wp2
      refine bodyPost_ret (v := .agg #[.int .i64 lo, .int .i64 ((lo + split (hi - lo) : Nat) : Int), .int .i64 hi]) ?_ rfl ⟨rfl, ?_⟩
      · rw [← HK.out]; simp [results, Try.results48, go_sem]
      · exact (by repeat (first | exact Ext.refl _ | assumption | apply Ext.alloc | apply Ext.drew | (refine Ext.setCell ?_ (by simp) _)))


theorem et_u8 : ET Try.prog 22 5 1 1 := .mk' (z := .int .u8 0) Try.underlying22 (by kernel_rfl) rfl (by decide) (by decide)
theorem et_u64 : ET Try.prog 27 24 1 8 := .mk' (z := .int .u64 0) Try.underlying27 (by kernel_rfl) rfl (by decide) (by decide)

set_option maxHeartbeats 1000000 in
theorem words_walk (B : Nat) (v lv : Value) (bs l : List Int) (w : World) (hB : B ≤ w.heap.size) (hv : OwnR w B 5 1 encB v bs) (S : SlA w v 1 encU lv l)
    (hlen : bs.length + 8 * l.length ≤ 140737488351232) :
    Calls Try.prog 43 #[v, lv] w fun e w' => ∃ v', e = .returned v' ∧ OwnR w' B 5 1 encB v' (bs ++ l.flatMap be8) ∧ Below B w w' := by
  obtain ⟨a?, cap, hlv, _⟩ := S.1
  subst hlv
  go_enter Try.func43, Try.ntmps43
  go_wp2
  go_loopw [0, 10] (fun v i wr => ∃ k : Nat, k ≤ l.length ∧ i = .int .i64 k ∧ OwnR wr B 5 1 encB v (bs ++ (l.take k).flatMap be8) ∧ Below B w wr ∧ SlA wr v 1 encU (.slice a? l.length cap) l)
                 (fun _ i _ => l.length - (intOf i).toNat)
  case atStart => exact ⟨0, Nat.zero_le _, rfl, by simpa using hv, Below.refl _ _, S⟩
  case round =>
    obtain ⟨k, hk, rfl, hown, hb, hs⟩ := hrel
    by_cases hlt : k < l.length
    · obtain ⟨b0, o0, rfl, hcr⟩ := hs.1.at1 k hlt
      simp only [encU, List.getD_cons_zero] at hcr
      go_wp2
      obtain ⟨wo, rfl⟩ : ∃ wo : World, wo = wr := ⟨_, rfl⟩
      clear hcr
      go_loopw [0, 7] (fun v i wi => ∃ m : Nat, m ≤ 8 ∧ i = .int .i64 (56 - 8 * (m : Int)) ∧ OwnR wi B 5 1 encB v (bs ++ (l.take k).flatMap be8 ++ (be8 l[k]).take m) ∧ Below B w wi ∧ SlA wi v 1 encU (.slice (some ⟨b0, o0, none⟩) l.length cap) l)
                 (fun _ i _ => (intOf i + 8).toNat)
      case atStart => exact ⟨0, by omega, rfl, by simpa using hown, hb, hs⟩
      case round =>
        obtain ⟨m, hm, rfl, hown1, hb1, hs1⟩ := hrel
        have hfl := flatMap_len (l.take k)
        have hL : (bs ++ (l.take k).flatMap be8 ++ (be8 l[k]).take m).length = bs.length + 8 * k + m := by
          simp [hfl, be8_len]; omega
        have HL := Lib.hid hL
        clear hL hfl
        by_cases hm8 : m < 8
        · have h0 : (8 : Int) * m ≤ 56 := by omega
          have h0' : ¬ ((56 : Int) < 8 * m) := by omega
          have hbt := Lib.hid (be8_take l[k] m hm8)
          go_wp2_with (at_builtin; go_must (refine wpList_own1 et_u8 rfl _ _ rfl hown1 rfl (byteAt l[k] (56 - 8 * m)) rfl rfl rfl (by simp [encB, Value.oneCell']) (by rw [HL.out]; omega) (by have := hb1.size; omega) ?_; intro v' w1 hown' hb' happ _))
          go_roundw
          case rel => exact ⟨m + 1, by omega, congrArg (Value.int .i64) (by omega), by rw [hbt.out, ← List.append_assoc]; exact hown', hb1.trans hb', hs1.appd happ (by omega)⟩
          case measure => simp [intOf]; omega
        · obtain rfl : m = 8 := by omega
          go_wp2
          go_roundw
          case rel => exact ⟨k + 1, by omega, by go_num, by rw [flatMap_take l k hlt, ← List.append_assoc]; exact hown1, hb1, hs1⟩
          case measure => simp [intOf]; omega
    · obtain rfl : k = l.length := by omega
      clear hs
      go_wp2
      go_ret
      exact ⟨_, rfl, by simpa using hown, hb⟩

theorem own_lit {α : Type} (w : World) {B : Nat} {e : TypeId} {sz : Nat} {enc : α → List Value} (cs : Array Value) (xs : List α) (n : Nat) (hn : xs.length = n) (hB : B ≤ w.heap.size) (hcs : cs.toList = xs.flatMap enc) (hsz : cs.size = n * sz) (hm : n ≤ maxLen) :
    OwnR (w.alloc (.cells cs e)) B e sz enc (.slice (some ⟨w.heap.size, 0, none⟩) n n) xs := by
  subst hn
  have := World.ownsRow_lit (base := B) (e := e) (size := sz) w cs xs.length hB hm hsz
  unfold OwnR
  rw [← hcs]; exact this

set_option maxHeartbeats 400000 in
theorem node_walk (a b : Int) (w : World) :
    Calls Try.prog 22 #[.int .u64 a, .int .u64 b] w fun e w' => e = .returned (.int .u64 (node a b)) ∧ Ext w w' := by
  have o1 := own_lit (enc := encB) (B := w.heap.size) (e := 5) (sz := 1) w #[.int .u8 1] [1] 1 rfl (Nat.le_refl _) rfl rfl (by simp [maxLen])
  have o2 := own_lit (enc := encU) (B := w.heap.size) (e := 24) (sz := 1) (w.alloc (.cells #[.int .u8 1] 5)) #[.int .u64 a, .int .u64 b] [a, b] 2 rfl (by simp) rfl rfl (by simp [maxLen])
  have s2 := o2.sl (by simp [encU]) (by simp)
  simp only [World.size_alloc] at s2
  have o1' := o1.alloc (.cells #[.int .u64 a, .int .u64 b] 24)
  clear o1 o2
  go_enter Try.func22, Try.ntmps22
  go_wp2_with (go_at_call 43; go_must (refine (words_walk w.heap.size _ _ [1] [a, b] _ (by simp; omega) o1' ⟨s2, fun _ a n c e => (by cases e; simp [Value.ownBlock])⟩ (by simp)).mono ?_))
  rintro e w1 ⟨v', rfl, hown, hb⟩
  have hs := hown.sl (by simp [encB]) (by simp [be8_len])
  clear o1' s2
  go_wp2_with (go_at_call 11; go_must (refine (sum_walk _ _ _ hs).mono ?_); rintro e w2 ⟨rfl, rfl⟩)
  go_ret
  refine ⟨by simp [node], ?_⟩
  exact Below.trans (((Ext.refl w).alloc _).alloc _) hb
end Go.Proofs.Yteelklpppfahcaa
