/-
  Walks: report.one, cuts, ends, Path, Root.
-/
import Derived.Test.YteelklpppfahcaaRepD
import Derived.Test.YteelklpppfahcaaRepN
namespace Go.Proofs.Yteelklpppfahcaa
open Go.RowKit Go.Sx Go.Sx.Rep

theorem et_cut : ET Try.prog 56 64 3 24 := .mk' (z := .agg #[.int .i64 0, .int .i64 0, .int .i64 0]) Try.underlying56 (by kernel_rfl) rfl (by decide) (by decide)

theorem one_walk (lo hi : Nat) (w : World) (h : hi ≤ 140737488351232) (h1 : lo ≤ hi) :
    Calls Try.prog 35 #[.int .i64 lo, .int .i64 hi] w fun e w' => e = .returned (.bool (decide (hi - lo = 1))) ∧ Ext w w' := by
  by_cases hc : hi - lo = 1
  · have h2 : ((hi : Int) - lo == 1) = true := by simp; omega
    go_enter Try.func35, Try.ntmps35
    go_wp2
    go_ret
    exact ⟨by simp [hc], Ext.refl _⟩
  · have h2 : ((hi : Int) - lo == 1) = false := by simp; omega
    go_enter Try.func35, Try.ntmps35
    go_wp2
    go_ret
    exact ⟨by simp [hc], Ext.refl _⟩

theorem divide_at (lo hi m : Nat) (w : World) (h1 : lo < hi) (h2 : hi ≤ 140737488351232) (hm : m = lo + split (hi - lo)) :
    Calls Try.prog 48 #[.int .i64 lo, .int .i64 hi] w fun e w' => e = .returned (.agg #[.int .i64 lo, .int .i64 m, .int .i64 hi]) ∧ Ext w w' := by
  subst hm; exact divide_walk lo hi w h1 h2

set_option maxHeartbeats 1000000 in
theorem cuts_walk (g : Nat) (cap : Array Value) (p : Nat → Nat → Bool) (i n : Nat) (w : World) (hi : i < n) (hn : n ≤ 1073741824)
    (eg : ∀ args w, (callFunc g args).run Try.prog w = .ok (.enter g args) w)
    (hp : ∀ lo hi, lo ≤ i → i < hi → p lo hi = false → lo + 2 ≤ hi)
    (hc : ∀ lo hi w', lo ≤ i → i < hi → hi ≤ n → Ext w w' → Calls Try.prog g (#[.int .i64 lo, .int .i64 hi] ++ cap) w' fun e w'' => e = .returned (.bool (p lo hi)) ∧ Ext w' w'') :
    Calls Try.prog 34 #[.int .i64 i, .int .i64 n, .func (.func g) #[] cap] w fun e w' =>
      ∃ v, e = .returned (.tuple #[v, .int .i64 ((cutsAll p i n).2.1 : Nat), .int .i64 ((cutsAll p i n).2.2 : Nat)]) ∧ OwnR w' w.heap.size 64 3 encCut v (cutsAll p i n).1 ∧ Ext w w' := by
  have HC := Lib.hid hc
  have HP := Lib.hid hp
  clear hc hp
  go_enter Try.func34, Try.ntmps34
  go_wp2
  go_loopw [9, 10, 11] (fun v l h wr => ∃ (pre : List (Nat × Nat × Nat)) (lo hi : Nat), lo ≤ i ∧ i < hi ∧ hi ≤ n ∧ l = .int .i64 lo ∧ h = .int .i64 hi ∧ Hid ((pre ++ (cutsF p i n lo hi).1, (cutsF p i n lo hi).2) = cutsAll p i n) ∧ OwnR wr w.heap.size 64 3 encCut v pre ∧ Ext w wr)
                 (fun _ l h _ => (intOf h - intOf l).toNat)
  case atStart => exact ⟨[], 0, n, by omega, hi, by omega, rfl, rfl, Lib.hid (by simp [cutsAll]), OwnR.nil, Ext.refl _⟩
  case round =>
    obtain ⟨pre, lo, hi, h1, h2, h3, rfl, rfl, HT, hown, hx⟩ := hrel
    have HS := Lib.hid (HC.out lo hi wr h1 h2 h3 hx)
    cases hpb : p lo hi with
    | true =>
      have hpe := Lib.hid hpb
      rw [hpb] at HS
      clear hpb
      go_wp2_with fail
      refine HS.out.mono ?_
      rintro e w1 ⟨rfl, hx1⟩
      have hr := HT.out
      rw [cutsF_stop p i n lo hi hpe.out, List.append_nil] at hr
      have HR := Lib.hid hr
      clear hr
      go_wp2
      go_ret3
      refine ⟨u9, ?_, ?_, hx.trans hx1⟩
      · rw [← HR.out]; rfl
      · rw [← HR.out]; exact hown.ext hx1
    | false =>
      have h5 := HP.out lo hi h1 h2 hpb
      have hgo := cutsF_go p i HP.out n lo hi h1 h2 h3 hpb
      rw [hpb] at HS
      clear hpb
      obtain ⟨m, hm⟩ : ∃ m : Nat, m = lo + split (hi - lo) := ⟨_, rfl⟩
      have h6 := split_lt (n := hi - lo) (by omega)
      have h7 := split_pos (hi - lo)
      rw [← hm] at hgo
      have hml : lo < m := by omega
      have hmh : m < hi := by omega
      have HG := Lib.hid hgo
      have HM := Lib.hid hm
      clear hgo hm h6 h7
      have hlen : (pre ++ [(lo, m, hi)]).length ≤ n := by
        have h8 := congrArg (fun r => r.1.length) HT.out
        simp only [cutsAll, List.length_append] at h8
        have h9 := cutsF_len p i n 0 n
        rw [HG.out] at h8
        simp only [List.length_cons] at h8
        simp only [List.length_append, List.length_cons, List.length_nil]
        omega
      have hlen' : pre.length + 1 ≤ n := by simpa using hlen
      clear hlen
      have hT2 : (pre ++ [(lo, m, hi)] ++ (if i < m then cutsF p i n lo m else cutsF p i n m hi).1, (if i < m then cutsF p i n lo m else cutsF p i n m hi).2) = cutsAll p i n := by
        rw [← HT.out, HG.out]; simp
      have HT2 := Lib.hid hT2
      clear hT2
      go_wp2_with fail
      refine HS.out.mono ?_
      rintro e w1 ⟨rfl, hx1⟩
      have hown1 := hown.ext hx1
      go_wp2_with fail
      refine (divide_at lo hi m _ (by omega) (by omega) HM.out).mono ?_
      rintro e w2 ⟨rfl, hx2⟩
      have hown2 := (hown1.ext hx2).alloc (.cells #[.int .i64 lo, .int .i64 m, .int .i64 hi] 64)
      have hx3 : Ext w (w2.alloc (.cells #[.int .i64 lo, .int .i64 m, .int .i64 hi] 64)) := ((hx.trans hx1).trans hx2).alloc _
      have hsz := hx3.size
      have hfr := (hown1.ext hx2).fresh (Nat.le_refl _)
      have e1 := alloc_cell w2 #[.int .i64 lo, .int .i64 m, .int .i64 hi] 64 1 (.int .i64 m) rfl
      by_cases him : i < m
      · have him' : (i : Int) < m := by omega
        go_wp2_with (at_builtin; go_must (refine wpList_own1 et_cut rfl _ _ rfl hown2 rfl (lo, m, hi) rfl rfl rfl (by simp [encCut, Value.oneCell']) (by omega) hsz ?_; intro v' w5 hown5 hb5 happ _; have e5 := happ.cell hfr e1))
        go_roundw
        case rel => exact ⟨pre ++ [(lo, m, hi)], lo, m, h1, him, by omega, rfl, rfl, Lib.hid (by rw [← HT2.out, if_pos him]), hown5, Below.trans hx3 hb5⟩
        case measure => simp [intOf] <;> omega
      · have him' : ¬ (i : Int) < m := by omega
        go_wp2_with (at_builtin; go_must (refine wpList_own1 et_cut rfl _ _ rfl hown2 rfl (lo, m, hi) rfl rfl rfl (by simp [encCut, Value.oneCell']) (by omega) hsz ?_; intro v' w5 hown5 hb5 happ _; have e5 := happ.cell hfr e1))
        go_roundw
        case rel => exact ⟨pre ++ [(lo, m, hi)], m, hi, by omega, h2, h3, rfl, rfl, Lib.hid (by rw [← HT2.out, if_neg him]), hown5, Below.trans hx3 hb5⟩
        case measure => simp [intOf] <;> omega
end Go.Proofs.Yteelklpppfahcaa
