/-
  Walks of chain: through.
-/
import Derived.Test.YtgfaiihekibcbaaGreatDoorGpG1
set_option maxRecDepth 100000
set_option linter.unusedVariables false
namespace Go.Proofs.YtgfaiihekibcbaaGreatDoor
open Go.RowKit Go.Sx Go.Sx.Sz Go.Sx.Sc Go.Sx.Po Go.Sx.Ch
attribute [local go_sem] Oper.semAt_some wide_fn wide_depth

theorem et_tb : ET Tryz.prog 86 81 1 24 := .mk' (z := .slice none 0 0) Tryz.underlying86 (by kernel_rfl) rfl (by decide) (by decide)
theorem et_st : ET Tryz.prog 30 39 3 24 := .mk' (z := .agg #[.int .i64 0, .int .i64 0, .int .i64 0]) Tryz.underlying30 (by kernel_rfl) rfl (by decide) (by decide)
/-- The levels so far: a row of blocks. -/
structure LvR (rows : Nat → List Ed) (N g B : Nat) (w : World) (v : Value) (tb : List Nat) : Prop where
  own : OwnR w B 81 1 (encTb N) v tb
  lev : ∀ i (h : i < tb.length), Bk w tb[i] 84 encRt ((levL rows N g i).map rtOf) ∧ B ≤ tb[i]
theorem LvR.ext {rows : Nat → List Ed} {N g B : Nat} {w w' : World} {v : Value} {tb : List Nat} (h : LvR rows N g B w v tb) (x : Ext w w') : LvR rows N g B w' v tb := ⟨h.own.ext x, fun i hi => ⟨(h.lev i hi).1.ext x, (h.lev i hi).2⟩⟩
theorem LvR.push {rows : Nat → List Ed} {N g B b : Nat} {w w' : World} {v v' : Value} {tb : List Nat} (h : LvR rows N g B w v tb) (o : OwnR w' B 81 1 (encTb N) v' (tb ++ [b])) (A : Appd w w' v v') (hb : Bk w b 84 encRt ((levL rows N g tb.length).map rtOf)) (hB : B ≤ b) : LvR rows N g B w' v' (tb ++ [b]) := by
  refine ⟨o, fun i hi => ?_⟩
  by_cases e : i < tb.length
  · rw [List.getElem_append_left e]
    exact ⟨Bk.appd (h.lev i e).1 h.own (by decide) A, (h.lev i e).2⟩
  · obtain rfl : i = tb.length := by rw [List.length_append, List.length_singleton] at hi; omega
    rw [List.getElem_append_right (Nat.le_refl _)]
    simp only [Nat.sub_self, List.getElem_singleton]
    exact ⟨Bk.appd hb h.own (by decide) A, hB⟩
/-- The three variables of the walk, and the steps so far. -/
def ThB (bn bs Bb : Nat) (n : Int) (vs vr : Value) (v : V6) (xs : List St) (W : World) : Prop :=
  W.heap[bn]? = some (.cells #[.int .i64 n] 3 (0, 0)) ∧ W.heap[bs]? = some (.cells #[vs] 30 (0, 0)) ∧ W.heap[bs + 1]? = some (.cells (#[.int .i64 v.a, .int .i64 v.b, .int .i64 v.c, .int .i64 v.d, .int .i64 v.e, .int .i64 v.f] : Array Value) 32 (0, 0)) ∧ OwnR W Bb 39 3 encSt vr xs
theorem stable_thb {bn bs Bb : Nat} {n : Int} {vs vr : Value} {v : V6} {xs : List St} : Stable Ext (ThB bn bs Bb n vs vr v xs) := fun _ _ h k => ⟨block_ext k h.1, block_ext k h.2.1, block_ext k h.2.2.1, h.2.2.2.ext k⟩
theorem stable_ethb {bn bs Bb : Nat} {n : Int} {v : V6} {xs : List St} : Stable Ext (fun W => ∃ z, ThB bn bs Bb n z z v xs W) := fun _ _ ⟨z, h⟩ k => ⟨z, stable_thb _ _ h k⟩
/-- Where the walk down the levels stands behind k of them. -/
def ThS (rows : Nat → List Ed) (N g T bn bs Bb k : Nat) (W : World) : Prop := ∃ (n : Nat) (v : V6) (pre : List Ed) (vs : Value), n < N ∧ Sml (16 * k) v ∧ pre ++ downR rows g (T - k) n v = downR rows g T g V6.zero ∧ pre.length ≤ k ∧
  W.heap[bn]? = some (.cells #[.int .i64 n] 3 (0, 0)) ∧ W.heap[bs]? = some (.cells #[vs] 30 (0, 0)) ∧ W.heap[bs + 1]? = some (.cells (#[.int .i64 v.a, .int .i64 v.b, .int .i64 v.c, .int .i64 v.d, .int .i64 v.e, .int .i64 v.f] : Array Value) 32 (0, 0)) ∧ OwnR W Bb 39 3 encSt vs (pre.map Ed.st)
theorem abide_ths {rows : Nat → List Ed} {N g T bn bs Bb k B : Nat} : Abide B (ThS rows N g T bn bs Bb k) := by
  unfold ThS
  exact .exi fun n => .exi fun v => .exi fun pre => .exi fun vs => .and (.pure _) (.and (.pure _) (.and (.pure _) (.and (.pure _) (.and .blk (.and .blk (.and .blk .own))))))
def slLen : Value → Nat
  | .slice _ n _ => n
  | _ => 0

set_option maxHeartbeats 8000000 in
theorem through_walk (vg : Value) (N : Nat) (rows : Nat → List Ed) (g most : Nat) (hN : N ≤ 1000) (hg : g < N) (hm : most ≤ 1000) (hr : ∀ n, ∀ e ∈ rows n, e.f = n) (hE : ∀ n, ∀ e ∈ rows n, e.t < N) (hS : ∀ n, ∀ e ∈ rows n, Sml 16 e.v)
    (w : World) (G : GrR w vg N rows) :
    Calls Tryz.prog 17 #[vg, .int .i64 g, .int .i64 most] w fun e w' => ∃ v, e = .returned v ∧ Sl w' 3 encSt v ((thrR rows g most).map Ed.st) ∧ ((thrR rows g most = [] ∧ v = .slice none 0 0) ∨ ∃ a n c, v = .slice (some a) n c ∧ thrR rows g most ≠ []) ∧ Ext w w' := by
  obtain ⟨ag, cg, rfl, -⟩ := G.len
  have X0 : Ext w ((w.alloc (.cells #[.slice ag N cg] 53)).alloc (.cells #[.int .i64 g] 3)) := (by repeat (first | with_reducible exact Ext.refl _ | with_reducible assumption | with_reducible apply Ext.alloc | with_reducible apply Ext.drew | (with_reducible refine Ext.setCell ?_ (by (try simp) <;> omega) _)))
  have b0_0 := block_alloc (block_new w (.cells #[.slice ag N cg] 53)) (.cells #[.int .i64 g] 3)
  have b0_1 := block_at (w := (w.alloc (.cells #[.slice ag N cg] 53))) (n := w.heap.size + 1) (by simp) (.cells #[.int .i64 g] 3)
  obtain ⟨W0, hW0⟩ : ∃ W, ((w.alloc (.cells #[.slice ag N cg] 53)).alloc (.cells #[.int .i64 g] 3)) = W := ⟨_, rfl⟩
  obtain ⟨B0, hB0⟩ : ∃ B, w.heap.size = B := ⟨_, rfl⟩
  rw [hW0] at X0 b0_0 b0_1
  rw [hB0] at b0_0 b0_1
  have HZ0 : Hid (w.heap.size ≤ B0) := Lib.hid (by omega)
  have HW0 := Lib.hid hW0; have HB0 := Lib.hid hB0
  clear hW0 hB0
  have G0 := Lib.hid G
  have HR := Lib.hid hr; have HS := Lib.hid hS; have HE := Lib.hid hE
  have HG := Lib.hid hg
  have d0 := block_cell b0_0 0 _ rfl
  have d1 := block_cell b0_1 0 _ rfl
  clear G hS hE hr
  refine (callsIn_wide (n := 0)).1 ?_
  refine callsIn_of_wp_marks Tryz.func17 rfl trivial ?_ rfl
  simp only [Tryz.ntmps17, List.size_toArray, List.length_cons, List.length_nil, Nat.reduceAdd, Nat.reduceSub, Array.replicate_succ, Array.replicate_zero, List.push_toArray, List.append_toArray, List.nil_append, List.cons_append]
  refine wpIn_wide.2 ?_
  go_upto_region 1 with fail
  rw [HW0.out, HB0.out]
  have E1 : W0.heap.size = B0 + 1 + 1 := by
    have h1 := HW0.out; have h2 := HB0.out
    rw [← h1, World.size_alloc, World.size_alloc, h2]
  clear HW0 HB0
  go_wp2_with (at_make; go_must (refine wpList_mk (enc := encRt) (sz := 13) (bytes := 104) (z := .agg #[.int .i64 0, .int .i64 0, .int .i64 0, .int .i64 0, .int .i64 0, .int .i64 0, .int .i64 0, .int .i64 0, .int .i64 0, .int .i64 0, .int .i64 0, .int .i64 0, .int .i64 0]) (rtOf []) Tryz.underlying81 (by kernel_rfl) rfl rfl rfl _ _ rfl N rfl rfl (by omega) (by omega) ?_; intro cs hbk; have i1 : (0 : Int) ≤ (g : Int) := (by omega); have i2 : (g : Int) < (N : Int) := (by omega); have d2 := (Ext.alloc' W0 (.cells cs 84)).cell d1))
  rw [E1] at hbk
  rw [show List.replicate N (rtOf []) = (List.replicate N ([] : List V6)).map rtOf by rw [List.map_replicate]] at hbk
  have XA := Lib.hid (Ext.alloc' W0 (.cells cs 84))
  have hz0 := HZ0.out
  refine (put_walk (B0 + 1 + 1) g (List.replicate N []) (by simpa using hg) V6.zero _ hbk (by simp)).mono ?_
  rintro e w1 ⟨rfl, hb1, hk1⟩
  rw [List.getElem_replicate, show putR [] V6.zero = [V6.zero] from rfl, lev_start rows hg] at hb1
  have X1 : Ext W0 w1 := by
    have h1 := hk1.below (B := W0.heap.size) XA.out.size (fun b e => by cases e; omega)
    exact Below.trans XA.out h1
  have D0 := Lib.hid d0; have D1 := Lib.hid d1
  have HQ0 := Lib.hid b0_0; have HQ1 := Lib.hid b0_1
  clear d0 d1 d2 hbk hk1 b0_0 b0_1 i1 i2
  have hz1 := X1.size
  have own2 : OwnR (w1.alloc (.cells #[.slice (some ⟨B0 + 1 + 1, 0, none⟩) N N] 81)) (B0 + 1 + 1) 81 1 (encTb N) (.slice (some ⟨w1.heap.size, 0, none⟩) 1 1) [B0 + 1 + 1] :=
    OwnR.lit w1 (B := B0 + 1 + 1) #[.slice (some ⟨B0 + 1 + 1, 0, none⟩) N N] [B0 + 1 + 1] 1 rfl (by omega) rfl rfl (by simp [maxLen])
  have lv2 : LvR rows N g (B0 + 1 + 1) (w1.alloc (.cells #[.slice (some ⟨B0 + 1 + 1, 0, none⟩) N N] 81)) (.slice (some ⟨w1.heap.size, 0, none⟩) 1 1) [B0 + 1 + 1] := ⟨own2, fun i hi => by
    obtain rfl : i = 0 := by simp at hi; omega
    exact ⟨hb1.ext (Ext.alloc' _ _), Nat.le_refl _⟩⟩
  have X2 : Ext W0 (w1.alloc (.cells #[.slice (some ⟨B0 + 1 + 1, 0, none⟩) N N] 81)) := X1.trans (Ext.alloc' _ _)
  have HL2 := Lib.hid lv2; have HX2 := Lib.hid X2
  clear own2 lv2 X1 X2 hb1 hz1
  go_wp2
  go_loopw [7, 8] (fun u7 u8 wr => ∃ (t : Nat) (tb : List Nat) (b : Nat), tb.length = t + 1 ∧ tb.getD t 0 = b ∧ u7 = .slice (some ⟨b, 0, none⟩) N N ∧ t ≤ most ∧ (∀ i, i < t → opensR (lev rows g i g) V6.zero = false) ∧ LvR rows N g (B0 + 1 + 1) wr u8 tb ∧ Ext W0 wr) (fun _ u8 _ => most + 2 - slLen u8)
  case atStart => exact ⟨0, [B0 + 1 + 1], _, rfl, rfl, rfl, Nat.zero_le _, fun i hi => absurd hi (Nat.not_lt_zero _), HL2.out, HX2.out⟩
  case round =>
    obtain ⟨t, tb, b, hl, hb, rfl, ht, hno, hlv, X⟩ := hrel
    clear HL2 HX2
    have htl : t < tb.length := by omega
    have hbt : tb[t] = b := by rw [← hb, List.getD_eq_getElem?_getD, List.getElem?_eq_getElem htl]; rfl
    obtain ⟨hbk, hbB⟩ := hlv.lev t htl
    rw [hbt] at hbk hbB
    obtain ⟨oa, oc, hv8⟩ := hlv.own.len
    rw [hl] at hv8
    subst hv8
    have hgl : g < (levL rows N g t).length := by rw [levL_len]; exact HG.out
    obtain ⟨l, hll⟩ : ∃ l, lev rows g t g = l := ⟨_, rfl⟩
    have hl2 : (levL rows N g t)[g] = l := by rw [levL_get HG.out, hll]
    obtain ⟨o, ho⟩ : ∃ o, g * 13 = o := ⟨_, rfl⟩
    obtain ⟨q0, ⟨q1, q2, q3, q4, q5, q6⟩, q7, q8, q9, q10, q11, q12⟩ := Bk.rt hbk hgl hl2 ho
    subst ho
    obtain ⟨x, hx⟩ : ∃ x, (rtOf l).x = x := ⟨_, rfl⟩
    obtain ⟨y, hy⟩ : ∃ y, (rtOf l).y = y := ⟨_, rfl⟩
    have hxy : rtOf l = ⟨l.length, x, y⟩ := by rw [← hx, ← hy]; rfl
    rw [hx] at q1 q2 q3 q4 q5 q6
    rw [hy] at q7 q8 q9 q10 q11 q12
    have d1 := X.cell D1.out
    have OW := Lib.hid fun w' => opens_walk l (by rw [← hll]; exact lev_le HR.out) x y V6.zero hxy (fun u hu => (sml_lev HR.out HS.out (by rw [hll]; exact hu)).mono (by omega)) (Sml.zero (by omega)) w'
    have HLV := Lib.hid hlv; have HX := Lib.hid X; have HNO := Lib.hid hno; have HLL := Lib.hid hll; have HTL := Lib.hid hl; have HBK := Lib.hid hbk
    have i1 : (0 : Int) ≤ (g : Int) := by omega
    have i2 : (g : Int) < (N : Int) := by omega
    clear hlv hno hll hl2 hx hy hxy hb hbt
    obtain ⟨c, hc⟩ : ∃ c, opensR l V6.zero = c := ⟨_, rfl⟩
    rw [hc] at OW
    have HC := Lib.hid hc
    clear hc X hbk
    go_wp2_with fail
    refine (OW.out _).mono ?_
    rintro e w5 ⟨rfl, x5⟩
    clear q0 q1 q2 q3 q4 q5 q6 q7 q8 q9 q10 q11 q12
    cases c with
    | true =>
      have HF := Lib.hid (first_at (rows := rows) ht (by rw [HLL.out]; exact HC.out) HNO.out)
      have HTH := Lib.hid (thr_some HF.out)
      have X5 := HX.out.trans x5
      have htn := HTL.out
      have LV5 := Lib.hid (HLV.out.ext x5)
      have hsl := LV5.out.own.sl (fun _ _ => rfl) (by omega)
      have hcap := hsl.le_cap.2
      have u1 : t ≤ oc := by omega
      have u2 : ¬ oc = 0 := by omega
      have u3 : (t : Int) ≤ (oc : Int) := by omega
      have SLT := Lib.hid (hsl.front t (by omega))
      have X6 : Ext w5 (((w5.alloc (.cells #[.slice none 0 0] 30)).alloc (.cells #[.int .i64 0, .int .i64 0, .int .i64 0, .int .i64 0, .int .i64 0, .int .i64 0] 32)).alloc (.cells #[.slice oa t oc] 86)) := (by repeat (first | with_reducible exact Ext.refl _ | with_reducible assumption | with_reducible apply Ext.alloc | with_reducible apply Ext.drew | (with_reducible refine Ext.setCell ?_ (by (try simp) <;> omega) _)))
      have b6_0 := block_alloc (block_alloc (block_new w5 (.cells #[.slice none 0 0] 30)) (.cells #[.int .i64 0, .int .i64 0, .int .i64 0, .int .i64 0, .int .i64 0, .int .i64 0] 32)) (.cells #[.slice oa t oc] 86)
      have b6_1 := block_alloc (block_at (w := (w5.alloc (.cells #[.slice none 0 0] 30))) (n := w5.heap.size + 1) (by simp) (.cells #[.int .i64 0, .int .i64 0, .int .i64 0, .int .i64 0, .int .i64 0, .int .i64 0] 32)) (.cells #[.slice oa t oc] 86)
      have b6_2 := block_at (w := ((w5.alloc (.cells #[.slice none 0 0] 30)).alloc (.cells #[.int .i64 0, .int .i64 0, .int .i64 0, .int .i64 0, .int .i64 0, .int .i64 0] 32))) (n := w5.heap.size + 1 + 1) (by simp) (.cells #[.slice oa t oc] 86)
      obtain ⟨W6, hW6⟩ : ∃ W, (((w5.alloc (.cells #[.slice none 0 0] 30)).alloc (.cells #[.int .i64 0, .int .i64 0, .int .i64 0, .int .i64 0, .int .i64 0, .int .i64 0] 32)).alloc (.cells #[.slice oa t oc] 86)) = W := ⟨_, rfl⟩
      obtain ⟨B6, hB6⟩ : ∃ B, w5.heap.size = B := ⟨_, rfl⟩
      rw [hW6] at X6 b6_0 b6_1 b6_2
      rw [hB6] at b6_0 b6_1 b6_2
      have HZ6 : Hid (w5.heap.size ≤ B6) := Lib.hid (by omega)
      have HW6 := Lib.hid hW6; have HB6 := Lib.hid hB6
      clear hW6 hB6
      clear hsl hcap d1
      go_wp2_with fail
      refine (backt_walk _ _ _ _).mono ?_
      rintro e w6 ⟨rfl, rfl⟩
      simp only [World.size_alloc]
      rw [HW6.out, HB6.out]
      have hz6 := X6.size
      have hz5 := X5.size
      have hz0' := HZ6.out
      have m0 := block_ext (X5.trans X6) HQ0.out; have m1 := block_ext (X5.trans X6) HQ1.out
      have hW6 : W6.heap.size = B6 + 1 + 1 + 1 := by have h1 := HW6.out; have h2 := HB6.out; rw [← h1]; simp [h2]
      have own6 := LV5.out.own.ext X6
      have lev6 := fun i (h : i < tb.length) => (LV5.out.lev i h).1.ext X6
      have hown : ∀ q, (Value.slice oa (t + 1) oc).ownBlock = some q → q ∉ [B0 + 1, B6, B6 + 1] := fun q hq hm => by
        obtain ⟨cs', h3⟩ := own6.kind hq
        simp only [List.mem_cons, List.not_mem_nil, or_false] at hm
        rcases hm with rfl | rfl | rfl
        · rw [m1] at h3; cases h3
        · rw [b6_0] at h3; cases h3
        · rw [b6_1] at h3; cases h3
      have hlev : ∀ i (h : i < tb.length), tb[i] ∉ [B0 + 1, B6, B6 + 1] := fun i h hm => by
        obtain ⟨cs', h3, -⟩ := lev6 i h
        simp only [List.mem_cons, List.not_mem_nil, or_false] at hm
        rcases hm with e | e | e
        · rw [e, m1] at h3; cases h3
        · rw [e, b6_0] at h3; cases h3
        · rw [e, b6_1] at h3; cases h3
      have EX := Lib.hid fun W' (y : Ks [B0 + 1, B6, B6 + 1] W6 W') => show Ext w W' from Below.trans (X0.trans (X5.trans X6)) (y.below (by omega) (fun b hb => by
        simp only [List.mem_cons, List.not_mem_nil, or_false] at hb; omega))
      have TB := Lib.hid fun W' (y : Ks [B0 + 1, B6, B6 + 1] W6 W') => show W'.cell? ⟨B6 + 1 + 1, 0, none⟩ = some (.slice oa t oc) ∧ Sl W' 1 (encTb N) (.slice oa t oc) (tb.take t) from
        ⟨block_cell (y.at b6_2 (by simp only [List.mem_cons, List.not_mem_nil, or_false]; omega)) 0 _ rfl, ((own6.ks y hown).sl (fun _ _ => rfl) (by omega)).front t (by omega)⟩
      have LVK := Lib.hid fun i (h : i < tb.length) W' (y : Ks [B0 + 1, B6, B6 + 1] W6 W') => Bk.ks (lev6 i h) y (hlev i h)
      have M0 := Lib.hid m0
      have TS0 : Hid (ThS rows N g t (B0 + 1) B6 W6.heap.size 0 W6) := Lib.hid ⟨g, V6.zero, [], _, HG.out, Sml.zero (by omega), rfl, Nat.le_refl _, m1, b6_0, b6_1, OwnR.nil⟩
      have HSZ := Lib.hid hW6
      have hbb : B0 + 1 + 1 ≤ B6 := by omega
      have hlen : (tb.take t).length = t := by rw [List.length_take]; omega
      have HTB : Hid (tb.length = t + 1) := Lib.hid htn
      clear hW6 own6 lev6 hown hlev m0 m1 b6_0 b6_1 b6_2 HW6 HB6 LV5 SLT X5 X6 hz6 hz5 x5 HLV HX HBK OW D0 D1 htn u1 u2 u3 HNO HLL HC
      go_wp2_with fail
      refine (wpIn_wide (n := 0)).1 ?_
      refine wpIn_rangeH (gf := 71) (lb := #[.pointer (some ⟨B6 + 1 + 1, 0, none⟩)]) rfl (enters_of Tryz.func71 (by kernel_rfl) rfl) (backt_iter (B6 + 1 + 1) _ N (tb.take t)) (fun _ => rfl)
        (fun k W' => Ks [B0 + 1, B6, B6 + 1] W6 W' ∧ ThS rows N g t (B0 + 1) B6 W6.heap.size k W')
        (fun _ _ => False)
        (fun k => .and (.ks (Nat.le_refl _)) abide_ths) (fun c => .false) (fun k W' h => TB.out W' h.1) ⟨Ks.refl _ _, TS0.out⟩ ?round2 ?done ?stop
      case stop => intro D c W' _ h; exact h.elim
      case done =>
        rintro D W' hD ⟨hks, n, v, pre, vs, hn, hv, hd, hpl, n0, n1, n2, own⟩ hdef
        rw [rgL_len, hlen] at hd hpl hv
        rw [Nat.sub_self, show downR rows g 0 n v = [] from by rw [downR], List.append_nil, ← HTH.out] at hd
        have hne : thrR rows g most ≠ [] := fun e => by
          have := (thr_walk HR.out (g := g) (most := most)).2.2.1 e
          rw [HF.out] at this; cases this
        have c0 := block_cell n1 0 _ rfl
        have SV := own.sl (fun _ _ => rfl) (by rw [List.length_map]; omega)
        have hsome : ∃ a n c, vs = .slice (some a) n c := by
          obtain ⟨_, ⟨rfl, h0⟩ | ⟨q, cap, cur, rfl, _⟩⟩ := own
          · rw [List.length_map] at h0
            rw [← hd] at hne
            exact absurd (List.eq_nil_of_length_eq_zero h0) hne
          · exact ⟨_, _, _, rfl⟩
        rw [hd] at SV
        have HSV := Lib.hid SV; have HNE := Lib.hid hne; have HSO := Lib.hid hsome
        have XF := Lib.hid (EX.out W' hks)
        have HDEF := Lib.hid hdef
        have hwD : w.heap.size ≤ D := by have := HSZ.out; omega
        have HWD := Lib.hid hwD
        clear SV hne hsome hdef own hks n0 n1 n2 hwD hd
        go_wp2
        refine bodyPostM_ret (v := vs) rfl HDEF.out (fun W9 _ => by simp [results, Tryz.results17, go_sem]) (fun W9 hs' => ⟨vs, rfl, hs'.sl HSV.out, .inr ?_, Below.trans XF.out (hs'.below HWD.out)⟩)
        obtain ⟨a, n', c', e⟩ := HSO.out
        exact ⟨a, n', c', e, HNE.out⟩
      case round2 =>
        rintro lr k W' hk ⟨hks, n, v, pre, vs, hn, hv, hd, hpl, n0, n1, n2, own⟩ hle hlt'
        rw [rgL_len, hlen] at hk
        rw [rgL_get, hlen]
        obtain ⟨m, hm⟩ : ∃ m, t - 1 - k = m := ⟨_, rfl⟩
        rw [hm]
        have hmt : m < tb.length := by have := HTB.out; omega
        have hgm : (tb.take t).getD m 0 = tb[m] := by
          rw [List.getD_eq_getElem?_getD, List.getElem?_take_of_lt (by omega), List.getElem?_eq_getElem hmt]; rfl
        simp only [encBT, hgm]
        have htk : t - k = m + 1 := by omega
        rw [htk] at hd
        obtain ⟨bm, hbm⟩ : ∃ bm, tb[m] = bm := ⟨_, rfl⟩
        have LVM := Lib.hid fun W2 (y : Ks [B0 + 1, B6, B6 + 1] W6 W2) => LVK.out m hmt W2 y
        rw [hbm] at LVM ⊢
        have hx0 := Ext.alloc' W' (.cells #[.slice (some ⟨bm, 0, none⟩) N N] 81)
        have hb0 := block_new W' (.cells #[.slice (some ⟨bm, 0, none⟩) N N] 81)
        obtain ⟨bE, hbE⟩ : ∃ bE, W'.heap.size = bE := ⟨_, rfl⟩
        have HBE := Lib.hid hbE
        gi_wp2
        refine ⟨(KeepsOthers.alloc _ _).from _, fun W2 hs2 hrec => ?_⟩
        have AKS := (Abide.ks (S := [B0 + 1, B6, B6 + 1]) (Nat.le_refl W6.heap.size))
        have hks2 := AKS.put _ _ lr (AKS.ext _ _ hks hx0) hle hs2
        have n0' := hs2.cells (block_ext hx0 n0); have n1' := hs2.cells (block_ext hx0 n1); have n2' := hs2.cells (block_ext hx0 n2)
        have own' := hs2.own (own.ext hx0)
        have hbe := hs2.cells hb0
        rw [hbE] at hbe
        have hbE6 : W6.heap.size ≤ bE := by have := hks.size; omega
        have hm0 := hks2.at M0.out (by simp only [List.mem_cons, List.not_mem_nil, or_false]; omega)
        have c3 := block_cell hm0 0 _ rfl
        have c4 := block_cell n0' 0 _ rfl
        have FW := Lib.hid (from_walk (.slice ag N cg) N n rows hn w W2 G0.out (EX.out W2 hks2))
        have j1 : (0 : Int) ≤ (n : Int) := by omega
        have j2 : (n : Int) < (N : Int) := by omega
        clear hx0 hb0 hs2 hks n0 n1 n2 own hm0 hbE hbm hgm hm
        gi_wp2_with fail
        refine ((free_round _ _).calls FW.out).mono ?_
        rintro e W3 ⟨rfl, v', hv', rfl⟩
        obtain ⟨Bf, hBf⟩ : ∃ Bf, W2.heap.size = Bf := ⟨_, rfl⟩
        have y2 := Ext.alloc' W2 (.cells #[v'] 74)
        have hbf := block_new W2 (.cells #[v'] 74)
        have hW3 : (W2.alloc (.cells #[v'] 74)).heap.size = Bf + 1 := by rw [World.size_alloc, hBf]
        obtain ⟨W3, hW3e⟩ : ∃ W3, W2.alloc (.cells #[v'] 74) = W3 := ⟨_, rfl⟩
        rw [hW3e] at y2 hbf hW3 ⊢
        rw [hBf] at hbf ⊢
        have hks3 := AKS.ext _ _ hks2 y2
        have m0 := block_ext y2 n0'; have m1 := block_ext y2 n1'; have m2 := block_ext y2 n2'
        have own3 := own'.ext y2
        have hbe3 := block_ext y2 hbe
        obtain ⟨r0, hrec0⟩ := hrec
        have hrec3 : W3.heap[lr]? = some (.loop r0) := (y2.block lr (Array.getElem?_eq_some_iff.1 hrec0).1).trans hrec0
        have HSV := Lib.hid hv'
        have HK3 := Lib.hid hks3
        have HD := Lib.hid hd
        have HM0 := Lib.hid m0; have HM1 := Lib.hid m1; have HM2 := Lib.hid m2; have HO3 := Lib.hid own3; have HBE3 := Lib.hid hbe3; have HBF := Lib.hid hbf
        have HZ3 := Lib.hid hW3
        have hb36 : W6.heap.size ≤ Bf := by have := hks2.size; omega
        have HKF := Lib.hid (show KeepsFrom W6.heap.size W2 W3 from (KeepsOthers.ext y2).from _)
        clear hks2 n0' n1' n2' own' hbe m0 m1 m2 own3 hbe3 hbf hW3e y2 FW hv' c3 c4 hks3 hd AKS hrec0
        gi_wp2_with fail
        refine wpIn_rangeI (gf := 94) (lb := #[.pointer (some ⟨Bf, 0, none⟩)]) hrec3 rfl (enters_of Tryz.func94 (by kernel_rfl) rfl) (values_iter Bf v' (rows n)) (fun _ => rfl)
          (fun j W => Ext W3 W ∧ ∀ i (h : i < (rows n).length), i < j → opensR (lev rows g m (rows n)[i].t) (v.add (rows n)[i].v 1) = false)
          (fun c W => c = .exit 4 ∧ KeepsFrom W6.heap.size W3 W ∧ Ks [B0 + 1, B6, B6 + 1] W6 W ∧ ThS rows N g t (B0 + 1) B6 W6.heap.size (k + 1) W)
          (fun j => .and (.extw (Nat.le_refl _)) (.pure _)) (fun c => .and (.pure _) (.and (.kf (Nat.le_refl _)) (.and (.ks (by omega)) abide_ths))) (fun j W h => ?need3) ?init3 ?round3 ?done3 ?stop3
        case need3 => exact ⟨block_cell (block_ext h.1 HBF.out) 0 _ rfl, HSV.out.ext (EX.out W (HK3.out.trans (h.1.ks _)))⟩
        case init3 => exact ⟨Ext.refl _, fun i _ hi => absurd hi (Nat.not_lt_zero _)⟩
        case stop3 =>
          rintro c W ⟨rfl, hkf, hks, hths⟩
          have H1 := Lib.hid hkf; have H2 := Lib.hid hks; have H3 := Lib.hid hths
          clear hkf hks hths
          gi_wp2
          exact ⟨HKF.out.trans H1.out, H2.out, H3.out⟩
        case done3 =>
          rintro W ⟨hx, hno⟩
          have H1 := Lib.hid hx; have H2 := Lib.hid hno
          clear hx hno
          gi_wp2
          refine ⟨HKF.out.trans ((KeepsOthers.ext H1.out).from _), HK3.out.trans (H1.out.ks _), n, v, pre, vs, hn, hv.mono (by omega), ?_, by omega, block_ext H1.out HM0.out, block_ext H1.out HM1.out, block_ext H1.out HM2.out, HO3.out.ext H1.out⟩
          rw [show t - (k + 1) = m by omega, ← down_none (rows := rows) (fun i hi => H2.out i hi hi)]
          exact HD.out
        case round3 =>
          rintro lq j W hj ⟨hx, hno⟩ hle3 hlt3
          obtain ⟨p, hp⟩ : ∃ p, (rows n)[j] = p := ⟨_, rfl⟩
          have hpm : p ∈ rows n := by rw [← hp]; exact List.getElem_mem hj
          have hpt := HE.out n p hpm
          have HNO := Lib.hid hno
          have HP := Lib.hid hp
          rw [hp]
          simp only [encVE, edC]
          have hb0 := block_new W (.cells (edC p) 76)
          have hx0 := Ext.alloc' W (.cells (edC p) 76)
          obtain ⟨bp, hbp⟩ : ∃ bp, W.heap.size = bp := ⟨_, rfl⟩
          have HBP := Lib.hid hbp
          gi_wp2
          refine ⟨(KeepsOthers.alloc _ _).from _, fun W4 hs4 _ => ?_⟩
          have X4 : Ext W3 W4 := (Abide.extw (Nat.le_refl W3.heap.size)).put _ _ lq (hx.trans hx0) hle3 hs4
          have hbe4 := hs4.cells hb0
          rw [hbp] at hbe4
          simp only [edC] at hbe4
          have hb63 : W3.heap.size ≤ bp := by have := hx.size; omega
          have v4 := block_ext X4 HM2.out
          have CA := Lib.hid fun w' => cadd_walk v p.v (hv.mono (by omega)) ((HS.out n p hpm).mono (by omega)) w'
          obtain ⟨u, hu⟩ : ∃ u, v.add p.v 1 = u := ⟨_, rfl⟩
          have hus : Sml (16 * (k + 1)) u := by
            rw [← hu]
            exact (hv.add (HS.out n p hpm) (.inl rfl)).mono (by omega)
          have HUS := Lib.hid hus
          rw [hu] at CA
          have HU := Lib.hid hu
          have e0 := block_cell hbe4 0 _ rfl; have e3 := block_cell hbe4 3 _ rfl; have e4 := block_cell hbe4 4 _ rfl; have e5 := block_cell hbe4 5 _ rfl; have e6 := block_cell hbe4 6 _ rfl; have e7 := block_cell hbe4 7 _ rfl; have e8 := block_cell hbe4 8 _ rfl
          have v0 := block_cell v4 0 _ rfl; have v1 := block_cell v4 1 _ rfl; have v2 := block_cell v4 2 _ rfl; have v3 := block_cell v4 3 _ rfl; have v5 := block_cell v4 4 _ rfl; have v6 := block_cell v4 5 _ rfl
          have HX4 := Lib.hid X4; have HBE4 := Lib.hid hbe4
          clear hx hno hp hb0 hx0 hbp hs4 v4 hu hus X4 hbe4
          gi_wp2_with fail
          refine ((free_round _ _).calls (CA.out _)).mono ?_
          rintro e w5 ⟨rfl, x5⟩
          clear e0 e3 e4 e5 e6 e7 e8 v0 v1 v2 v3 v5 v6
          have hw53 : W3.heap.size ≤ w5.heap.size := (HX4.out.trans x5).size
          have X7 : Ext w5 (w5.alloc (.cells (#[.int .i64 u.a, .int .i64 u.b, .int .i64 u.c, .int .i64 u.d, .int .i64 u.e, .int .i64 u.f] : Array Value) 32)) := (by repeat (first | with_reducible exact Ext.refl _ | with_reducible assumption | with_reducible apply Ext.alloc | with_reducible apply Ext.drew | (with_reducible refine Ext.setCell ?_ (by (try simp) <;> omega) _)))
          have b7_0 := block_new w5 (.cells (#[.int .i64 u.a, .int .i64 u.b, .int .i64 u.c, .int .i64 u.d, .int .i64 u.e, .int .i64 u.f] : Array Value) 32)
          obtain ⟨W7, hW7⟩ : ∃ W, (w5.alloc (.cells (#[.int .i64 u.a, .int .i64 u.b, .int .i64 u.c, .int .i64 u.d, .int .i64 u.e, .int .i64 u.f] : Array Value) 32)) = W := ⟨_, rfl⟩
          obtain ⟨B7, hB7⟩ : ∃ B, w5.heap.size = B := ⟨_, rfl⟩
          rw [hW7] at X7 b7_0
          rw [hB7] at b7_0
          have HZ7 : Hid (w5.heap.size ≤ B7) := Lib.hid (by omega)
          have HW7 := Lib.hid hW7; have HB7 := Lib.hid hB7
          clear hW7 hB7
          have X7' := (HX4.out.trans x5).trans X7
          have hbe7 := block_ext (x5.trans X7) HBE4.out
          have hle7 := block_ext X7' HBE3.out
          obtain ⟨l, hll⟩ : ∃ l, lev rows g m p.t = l := ⟨_, rfl⟩
          have hlt7 : p.t < (levL rows N g m).length := by rw [levL_len]; exact hpt
          have hl2 : (levL rows N g m)[p.t] = l := by rw [levL_get hpt, hll]
          obtain ⟨q0, ⟨q1, q2, q3, q4, q5, q6⟩, q7, q8, q9, q10, q11, q12⟩ := Bk.rt (LVM.out W7 (HK3.out.trans (X7'.ks _))) hlt7 hl2 rfl
          obtain ⟨x, hx⟩ : ∃ x, (rtOf l).x = x := ⟨_, rfl⟩
          obtain ⟨y, hy⟩ : ∃ y, (rtOf l).y = y := ⟨_, rfl⟩
          have hxy : rtOf l = ⟨l.length, x, y⟩ := by rw [← hx, ← hy]; rfl
          rw [hx] at q1 q2 q3 q4 q5 q6
          rw [hy] at q7 q8 q9 q10 q11 q12
          have OW := Lib.hid fun w' => opens_walk l (by rw [← hll]; exact lev_le HR.out) x y u hxy (fun z hz => (sml_lev HR.out HS.out (by rw [hll]; exact hz)).mono (by omega)) (HUS.out.mono (by omega)) w'
          obtain ⟨c, hc⟩ : ∃ c, opensR l u = c := ⟨_, rfl⟩
          rw [hc] at OW
          have HC : Hid (opensR (lev rows g m p.t) u = c) := Lib.hid (by rw [hll]; exact hc)
          have q0 := ext_cells q0; have q1 := ext_cells q1; have q2 := ext_cells q2; have q3 := ext_cells q3; have q4 := ext_cells q4; have q5 := ext_cells q5; have q6 := ext_cells q6; have q7 := ext_cells q7; have q8 := ext_cells q8; have q9 := ext_cells q9; have q10 := ext_cells q10; have q11 := ext_cells q11; have q12 := ext_cells q12
          have e1 := ext_cells (block_cell hbe7 1 _ rfl)
          have le0 := ext_cells (block_cell hle7 0 _ rfl)
          have u0 := ext_cells (block_cell b7_0 0 _ rfl); have u1 := ext_cells (block_cell b7_0 1 _ rfl); have u2 := ext_cells (block_cell b7_0 2 _ rfl); have u3 := ext_cells (block_cell b7_0 3 _ rfl); have u4 := ext_cells (block_cell b7_0 4 _ rfl); have u5 := ext_cells (block_cell b7_0 5 _ rfl)
          have HX7 := Lib.hid X7'; have HBE7 := Lib.hid hbe7; have HBU := Lib.hid b7_0
          have HX74 := Lib.hid (x5.trans X7)
          have j3 : (0 : Int) ≤ (p.t : Int) := by omega
          have j4 : (p.t : Int) < (N : Int) := by omega
          clear X7' hbe7 hle7 b7_0 hll hl2 hx hy hxy hc x5 X7
          gi_wp2_with fail
          rw [HW7.out, HB7.out]
          refine wpIn_region_ordT (free_round _ _) [(0,true), (1,true), (2,true), (3,true), (4,true), (5,true), (6,true), (7,true)] 8 Ext (Ext W7) wide (by kernel_rfl) (stable_ext _) (Ext.drawn _ _) ?_
          iterate 7 (first | (apply ordT_no rfl; rfl; (simp only [List.getElem_toArray, List.getElem_cons_succ, List.getElem_cons_zero, Act.put, List.setIfInBounds_toArray, List.set_cons_succ, List.set_cons_zero]; rfl)) | (apply ordT_yes rfl; rfl; (intro w' hw'; unfold opR; go_simp; exact ⟨Ext.refl _, rfl⟩); (simp only [List.getElem_toArray, List.getElem_cons_succ, List.getElem_cons_zero, Act.put, List.setIfInBounds_toArray, List.set_cons_succ, List.set_cons_zero]; rfl)))
          (apply ordT_det rfl rfl; (intro w' hw'; refine opR_call rfl (Go.Proofs.enters_of Tryz.func40 (by kernel_rfl) rfl) (by simp only [List.map_toArray, List.map_cons, List.map_nil, Act.eval, Array.getD_eq_getD_getElem?, List.getElem?_toArray, List.getElem?_cons_succ, List.getElem?_cons_zero, Option.getD_some]; rfl) ?_; refine (OW.out _).mono ?_; rintro e w'' ⟨rfl, hx⟩; exact ⟨_, rfl, hx, rfl⟩); (simp only [List.getElem_toArray, List.getElem_cons_succ, List.getElem_cons_zero, Act.put, List.setIfInBounds_toArray, List.set_cons_succ, List.set_cons_zero]; rfl))
          refine ordT_nil rfl ?_
          intro w9 x9
          clear q0 q1 q2 q3 q4 q5 q6 q7 q8 q9 q10 q11 q12 e1 le0 u0 u1 u2 u3 u4 u5
          cases c with
          | false =>
            have HX9 := Lib.hid x9
            clear x9
            gi_wp2
            refine ⟨(KeepsOthers.ext (HX74.out.trans HX9.out)).from _, HX7.out.trans HX9.out, fun i hi hij => ?_⟩
            by_cases e : i = j
            · subst e; rw [HP.out, HU.out]; exact HC.out
            · exact HNO.out i hi (by omega)
          | true =>
            have hbe9 := block_ext x9 HBE7.out
            have hbu9 := block_ext x9 HBU.out
            have X9 := HX7.out.trans x9
            have m0 := block_ext X9 HM0.out; have m1 := block_ext X9 HM1.out; have m2 := block_ext X9 HM2.out
            have own9 := HO3.out.ext X9
            have HX9 := Lib.hid X9
            have HX94 := Lib.hid (HX74.out.trans x9)
            clear x9 X9
            gi_wp2_with fail
            have hnS : ∀ q, vs.ownBlock = some q → q ≠ B6 ∧ q ≠ B6 + 1 ∧ q ≠ B0 + 1 ∧ W6.heap.size ≤ q := fun q hq => by
              have h1 := (World.ownsRow.lt own9 q hq).1
              have h2 := HSZ.out
              omega
            have hS2 : ∀ q ∈ B6 :: (B6 + 1) :: ownL vs, q ≠ B0 + 1 ∧ q < w9.heap.size := fun q hq => by
              simp only [List.mem_cons] at hq
              rcases hq with rfl | rfl | hq
              · exact ⟨by omega, (Array.getElem?_eq_some_iff.1 m1).1⟩
              · exact ⟨by omega, (Array.getElem?_eq_some_iff.1 m2).1⟩
              · exact ⟨(hnS q (mem_ownL.1 hq)).2.2.1, (World.ownsRow.lt own9 q (mem_ownL.1 hq)).2⟩
            have hbp3 : ∀ q ∈ B6 :: (B6 + 1) :: ownL vs, q ≠ bp ∧ q ≠ B7 := fun q hq => by
              have hown3 := HO3.out
              have hB7 := HZ7.out
              have h2 := HZ3.out
              have h3 := HSZ.out
              simp only [List.mem_cons] at hq
              rcases hq with rfl | rfl | hq
              · omega
              · omega
              · have := (World.ownsRow.lt hown3 q (mem_ownL.1 hq)).2; omega
            have st0 := ks_cells (S := B6 :: (B6 + 1) :: ownL vs) (block_cell hbe9 0 _ rfl) (fun h => (hbp3 _ h).1 rfl)
            have st1 := ks_cells (S := B6 :: (B6 + 1) :: ownL vs) (block_cell hbe9 1 _ rfl) (fun h => (hbp3 _ h).1 rfl)
            have st2 := ks_cells (S := B6 :: (B6 + 1) :: ownL vs) (block_cell hbe9 2 _ rfl) (fun h => (hbp3 _ h).1 rfl)
            have su0 := ks_cells (S := B6 :: (B6 + 1) :: ownL vs) (block_cell hbu9 0 _ rfl) (fun h => (hbp3 _ h).2 rfl)
            have su1 := ks_cells (S := B6 :: (B6 + 1) :: ownL vs) (block_cell hbu9 1 _ rfl) (fun h => (hbp3 _ h).2 rfl)
            have su2 := ks_cells (S := B6 :: (B6 + 1) :: ownL vs) (block_cell hbu9 2 _ rfl) (fun h => (hbp3 _ h).2 rfl)
            have su3 := ks_cells (S := B6 :: (B6 + 1) :: ownL vs) (block_cell hbu9 3 _ rfl) (fun h => (hbp3 _ h).2 rfl)
            have su4 := ks_cells (S := B6 :: (B6 + 1) :: ownL vs) (block_cell hbu9 4 _ rfl) (fun h => (hbp3 _ h).2 rfl)
            have su5 := ks_cells (S := B6 :: (B6 + 1) :: ownL vs) (block_cell hbu9 5 _ rfl) (fun h => (hbp3 _ h).2 rfl)
            have HTB9 : Hid (ThB (B0 + 1) B6 W6.heap.size n vs vs v (pre.map Ed.st) w9) := Lib.hid ⟨m0, m1, m2, own9⟩
            have HS2 := Lib.hid hS2; have HNS := Lib.hid hnS
            have hpl2 : (pre.map Ed.st).length ≤ 1000 := by rw [List.length_map]; omega
            clear hbe9 hbu9 m0 m1 m2 own9 hbp3 hS2 hnS
            apply wpIn_region_ordY [(1, .det _), (2, .det _), (5, .det _), (6, .det _), (7, .det _), (8, .det _), (3, .new (fun _ => True) (Sl1 w9.heap.size 39 #[.int .i64 p.f, .int .i64 p.t, .int .i64 p.k]) undef trivial),
              (0, .one (fun u => u = vs) (fun _ W => ThB (B0 + 1) B6 W6.heap.size n vs vs v (pre.map Ed.st) W) vs rfl),
              (4, .one (fun _ => True) (fun z W => ThB (B0 + 1) B6 W6.heap.size n vs z v ((pre ++ [p]).map Ed.st) W) undef trivial [3]),
              (9, .one (fun _ => True) (fun _ W => ∃ z, ThB (B0 + 1) B6 W6.heap.size n z z v ((pre ++ [p]).map Ed.st) W) undef trivial),
              (10, .one (fun _ => True) (fun _ W => ∃ z, ThB (B0 + 1) B6 W6.heap.size n z z u ((pre ++ [p]).map Ed.st) W) undef trivial)]
              11 Ext (Ks (B6 :: (B6 + 1) :: ownL vs)) (Ks (B6 :: (B6 + 1) :: ownL vs) w9) (ThB (B0 + 1) B6 W6.heap.size n vs vs v (pre.map Ed.st)) wide
              [(1,true),(2,true),(5,true),(6,true),(7,true),(8,true),(3,true),(0,false),(4,false),(9,false),(10,false)] [(1,[]),(2,[]),(5,[]),(6,[]),(7,[]),(8,[]),(3,[]),(0,[]),(4,[3]),(9,[]),(10,[])] (by kernel_rfl) (by kernel_rfl) (by rintro ⟨_, _, h⟩; exact h) rfl rfl (by simp [Y.Kd.new, Y.Kd.det, Y.Kd.one, Y.kdOf]) (by decide) (sub_ks _) (stable_ks _ _) stable_thb (Ks.drawn _ _ _) (stable_thb _ _ HTB9.out (Ext.drawn _ _)) ?mainQ
            case mainQ =>
              iterate 6 (apply Y.ordX_det rfl rfl; (intro w' hw'; unfold opR; go_simp; exact ⟨Ext.refl _, rfl⟩); (simp only [List.getElem_toArray, List.getElem_cons_succ, List.getElem_cons_zero, Act.put, List.setIfInBounds_toArray, List.set_cons_succ, List.set_cons_zero]; rfl))
              apply Y.ordX_new (fun z => Sl1.stableS (fun q hq => (HS2.out q hq).2) z) rfl rfl
              · intro w' hw' _
                unfold opR
                go_simp
                exact ⟨Ext.alloc' _ _, Sl1.new w' _ _ hw'.size⟩
              · intro z; (simp only [List.getElem_toArray, List.getElem_cons_succ, List.getElem_cons_zero, Act.put, List.setIfInBounds_toArray, List.set_cons_succ, List.set_cons_zero]; rfl)
              intro v3 _
              apply Y.ordX_one (fun _ => stable_thb) rfl rfl
              · intro w' hw' hC _
                have c0 := block_cell hC.2.1 0 _ rfl
                unfold opR
                go_simp
                exact ⟨Ks.refl _ _, rfl, hC⟩
              · intro z; (simp only [List.getElem_toArray, List.getElem_cons_succ, List.getElem_cons_zero, Act.put, List.setIfInBounds_toArray, List.set_cons_succ, List.set_cons_zero]; rfl)
              intro z0 h0
              have h0' : vs = z0 := Eq.symm h0
              subst h0'
              apply Y.ordX_one (fun _ => stable_thb) rfl rfl
              · intro w' hw' hC hN
                obtain ⟨g3, hg3, -, hrow⟩ := hN 3 (by simp)
                refine opR_own_app et_st (.tmp 67) (.tmp 70) rfl hC.2.2.2 rfl [Ed.st p] ⟨g3, 0, none⟩ 1 hg3 (fun _ _ => rfl) (fun j q hq => row_news hrow j q hq) (by simp [encSt, Value.oneCell']) (by simp; omega) (Nat.le_trans (HK3.out.trans (HX9.out.ks _)).size hw'.size) ?_
                intro z w4 h1 h2 h3
                refine ⟨h3.ks (fun q hq => by simp [mem_ownL.2 hq]), trivial, h3.block hC.1 (fun e => (HNS.out _ e).2.2.1 rfl), h3.block hC.2.1 (fun e => (HNS.out _ e).1 rfl), h3.block hC.2.2.1 (fun e => (HNS.out _ e).2.1 rfl), ?_⟩
                rw [List.map_append]; exact h1
              · intro z; (simp only [List.getElem_toArray, List.getElem_cons_succ, List.getElem_cons_zero, Act.put, List.setIfInBounds_toArray, List.set_cons_succ, List.set_cons_zero]; rfl)
              intro v4 _
              apply Y.ordX_one (fun _ => stable_ethb) rfl rfl
              · intro w' hw' hC _
                obtain ⟨h1, h2, h3, h4⟩ := hC
                have c0 := block_cell h2 0 _ rfl
                have f0 := block_free h2 0
                have hne : v4.ownBlock ≠ some B6 := fun e => by
                  have := (World.ownsRow.lt h4 B6 e).1; have := HSZ.out; omega
                have FIN : Hid (ThB (B0 + 1) B6 W6.heap.size n v4 v4 v ((pre ++ [p]).map Ed.st) (w'.setCell ⟨B6, 0, none⟩ v4)) := Lib.hid ⟨block_ne h1 0 v4 (by omega), block_set h2 0 v4, block_ne h3 0 v4 (by omega), h4.stay hne v4⟩
                have KS : Hid (Ks (B6 :: (B6 + 1) :: ownL vs) w' (w'.setCell ⟨B6, 0, none⟩ v4)) := Lib.hid ((Ks.refl _ _).setCell (.inl (by simp)) v4)
                obtain ⟨a4, c4, e4⟩ := h4.len
                obtain ⟨q4, hq4⟩ : ∃ q, ((pre ++ [p]).map Ed.st).length = q := ⟨_, rfl⟩
                rw [hq4] at e4
                clear hq4
                clear h1 h2 h3 h4 hne hw'
                subst e4
                unfold opR
                go_simp
                exact ⟨KS.out, (Value.slice a4 q4 c4), by have := FIN.out; rw [List.map_append] at this; exact this⟩
              · intro z; (simp only [List.getElem_toArray, List.getElem_cons_succ, List.getElem_cons_zero, Act.put, List.setIfInBounds_toArray, List.set_cons_succ, List.set_cons_zero]; rfl)
              intro v9 _
              apply Y.ordX_one (fun _ => stable_ethb) rfl rfl
              · rintro w' hw' ⟨z, h1, h2, h3, h4⟩ _
                have hne : z.ownBlock ≠ some (B6 + 1) := fun e => by
                  have := (World.ownsRow.lt h4 (B6 + 1) e).1; have := HSZ.out; omega
                refine opR_store_row _ _ _ rfl (B6 + 1) #[.int .i64 u.a, .int .i64 u.b, .int .i64 u.c, .int .i64 u.d, .int .i64 u.e, .int .i64 u.f] rfl rfl _ _ h3 (by kernel_rfl) rfl (by simp [Value.oneCell']) ?_
                exact ⟨(Ks.refl _ _).setRow (.inl (by simp)) _, trivial, z, setRow_ne h1 (by omega) _, setRow_ne h2 (by omega) _, setRow_at h3 _, h4.setRow hne _⟩
              · intro z; (simp only [List.getElem_toArray, List.getElem_cons_succ, List.getElem_cons_zero, Act.put, List.setIfInBounds_toArray, List.set_cons_succ, List.set_cons_zero]; rfl)
              intro v10 _
              refine Y.ordX_nil rfl ?_
              rintro wz hwz ⟨z, h1, h2, h3, h4⟩ -
              have hdn : downR rows g (m + 1) n v = p :: downR rows g m p.t u := by
                have h7 := down_some (rows := rows) (g := g) (t := m) (n := n) (v := v) hj (fun i hi hij => HNO.out i hi hij) (by rw [HP.out, HU.out]; exact HC.out)
                rw [HP.out, HU.out] at h7
                exact h7
              have hz1 : z.ownBlock ≠ some (B0 + 1) := fun e => by
                have := (World.ownsRow.lt h4 (B0 + 1) e).1; have := HSZ.out; omega
              have KZ : Ks ((B0 + 1) :: B6 :: (B6 + 1) :: ownL vs) w9 (wz.setCell ⟨B0 + 1, 0, none⟩ (.int .i64 p.t)) := (hwz.mono (fun q hq => List.mem_cons_of_mem _ hq)).setCell (.inl (by simp)) _
              have FT : Hid (ThS rows N g t (B0 + 1) B6 W6.heap.size (k + 1) (wz.setCell ⟨B0 + 1, 0, none⟩ (.int .i64 p.t))) := Lib.hid
                ⟨p.t, u, pre ++ [p], z, hpt, HUS.out.mono (by omega), by rw [show t - (k + 1) = m by omega, List.append_assoc, List.singleton_append, ← hdn]; exact HD.out, by simp; omega, block_set h1 0 _, block_ne h2 0 _ (by omega), block_ne h3 0 _ (by omega), h4.stay hz1 _⟩
              have FK : Hid (Ks [B0 + 1, B6, B6 + 1] W6 (wz.setCell ⟨B0 + 1, 0, none⟩ (.int .i64 p.t))) := Lib.hid ((HK3.out.trans (HX9.out.ks _)).widen KZ (fun q hq => by
                simp only [List.mem_cons, List.not_mem_nil, or_false] at hq ⊢
                rcases hq with rfl | rfl | rfl | hq
                · exact .inl (.inl rfl)
                · exact .inl (.inr (.inl rfl))
                · exact .inl (.inr (.inr rfl))
                · exact .inr (HNS.out q (mem_ownL.1 hq)).2.2.2))
              have KC : KeepsFrom W6.heap.size w9 (wz.setCell ⟨B0 + 1, 0, none⟩ (.int .i64 p.t)) := KeepsFrom.ks KZ (fun q hq => by
                obtain ⟨k0, k1, k2, k3⟩ := HTB9.out
                simp only [List.mem_cons] at hq
                rcases hq with rfl | rfl | rfl | hq
                · exact ⟨_, _, _, k0⟩
                · exact ⟨_, _, _, k1⟩
                · exact ⟨_, _, _, k2⟩
                · obtain ⟨cs', h⟩ := k3.kind (mem_ownL.1 hq)
                  exact ⟨_, _, _, h⟩)
              have F1 : Hid (KeepsFrom W3.heap.size W4 (wz.setCell ⟨B0 + 1, 0, none⟩ (.int .i64 p.t))) := Lib.hid (((KeepsOthers.ext HX94.out).from _).trans ⟨KC.size, fun i o hi h ho => KC.same i o (by omega) h ho⟩)
              have F2 : Hid (KeepsFrom W6.heap.size W3 (wz.setCell ⟨B0 + 1, 0, none⟩ (.int .i64 p.t))) := Lib.hid (((KeepsOthers.ext HX9.out).from _).trans KC)
              have c0 := block_cell h1 0 _ rfl
              have f0 := block_free h1 0
              clear hdn hz1 KZ KC h2 h3 h4 h1 hwz st0 st1 st2 su0 su1 su2 su3 su4 su5
              go_wp2
              gi_wp2
              exact ⟨F1.out, rfl, F2.out, FK.out, FT.out⟩
    | false =>
      have X5 := HX.out.trans x5
      have LV5 := Lib.hid (HLV.out.ext x5)
      have BK5 := Lib.hid (HBK.out.ext x5)
      have htn := HTL.out
      by_cases hlt : most < t + 1
      · have HF := Lib.hid (thr_none (rows := rows) (g := g) (most := most) (first_none.2 fun i hi => by
          by_cases e : i = t
          · subst e; rw [HLL.out]; exact HC.out
          · exact HNO.out i (by omega)))
        have t1 : decide (most < t + 1) = true := decide_eq_true (by omega)
        have t2 : (most : Int) < ((t : Int) + 1) := by omega
        clear d1
        go_wp2
        exact bodyPostM_ret0 (v := .slice none 0 0) rfl (by simp [results, Tryz.results17, go_sem]) ⟨_, rfl, by rw [HF.out]; exact Sl.nil _ _ _, .inl ⟨HF.out, rfl⟩, X0.trans X5⟩
      · have t1 : decide (most < t + 1) = false := decide_eq_false (by omega)
        have t2 : ¬ (most : Int) < ((t : Int) + 1) := by omega
        have d0 := X5.cell D0.out
        have LW := Lib.hid fun w' (y : Ext w5 w') => longer_walk (.slice ag N cg) (.slice (some ⟨b, 0, none⟩) N N) N rows (levL rows N g t) hN (levL_len _ _ _ _) HE.out HS.out (levL_ok HR.out HS.out (by omega)) w' (G0.out.ext (X0.trans (X5.trans y))) ((BK5.out.ext y).sl (sz := 13) (fun _ _ => rfl) (by simp [levL]) (by simp [levL]; omega))
        rw [lng_lev HE.out] at LW
        have hz5 : B0 + 1 + 1 ≤ w5.heap.size := by have := X5.size; omega
        clear d1
        go_wp2_with fail
        refine (LW.out _ (Ext.refl _)).mono ?_
        rintro e w6 ⟨b6, rfl, hb6, hbk6, x6⟩
        have hz6 := x6.size
        have LV6 := Lib.hid (LV5.out.ext x6)
        have own6 := LV6.out.own
        have X6 := Lib.hid (X5.trans x6)
        have BK6 := Lib.hid hbk6
        clear hbk6 x6 d0 t1 t2
        go_wp2_with (first | (at_builtin; go_must (refine wpList_own1 et_tb rfl _ _ rfl own6 rfl (b6 : Nat) rfl rfl rfl (by simp [encTb, Value.oneCell']) (by omega) (by omega) ?_; intro v7 w7 hown7 hb7 happ _; (obtain ⟨a7, c7, e7⟩ := hown7.len); (rw [show (tb ++ [b6]).length = t + 1 + 1 by rw [List.length_append, htn]; rfl] at e7); subst e7; have LV7 := Lib.hid (LV6.out.push hown7 happ (by rw [htn]; exact BK6.out) (by omega)); have X7 := Lib.hid (show Ext W0 w7 from Below.trans X6.out (hb7.mono (by omega))); clear hown7 hb7 happ)) | fail)
        go_roundw
        case rel =>
          refine ⟨t + 1, tb ++ [b6], b6, by simp; omega, ?_, rfl, by omega, fun i hi => ?_, LV7.out, X7.out⟩
          · rw [List.getD_eq_getElem?_getD, List.getElem?_append_right (by omega), htn]; simp
          · by_cases e : i = t
            · subst e; rw [HLL.out]; exact HC.out
            · exact HNO.out i (by omega)
        case measure => simp [slLen]; omega
end Go.Proofs.YtgfaiihekibcbaaGreatDoor
