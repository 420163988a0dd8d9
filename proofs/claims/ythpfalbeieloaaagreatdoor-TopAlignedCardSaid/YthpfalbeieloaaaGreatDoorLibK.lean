/-
  Libraries of these proofs, laid as one text: R23B, BmA, BmB, BmC, BmD, BmE, BmF, BmG, BmH, Sam16.
-/
import Derived.Test.YthpfalbeieloaaaGreatDoorPlN
import Derived.Test.YthpfalbeieloaaaGreatDoorLibM
import Derived.Test.YthpfalbeieloaaaGreatDoorLibP
import Derived.Test.YthpfalbeieloaaaGreatDoorAuG
import Derived.Test.YthpfalbeieloaaaGreatDoorLibC
import Derived.Test.YthpfalbeieloaaaGreatDoorLibB
/-
  Walks of the reference: Same (of vectors), Steps and Chains, of equal lists.
-/
set_option linter.unusedVariables false
namespace Go.Proofs.YthpfalbeieloaaaGreatDoor
open Go.RowKit Go.Sx Go.Sx.Sz Go.Sx.Sc Go.Sx.Po

theorem Sl.ck {w : World} {a? : Option Addr} {n cap : Nat} {zs : List (Value × Cn)} (h : Sl w 8 encCk (.slice a? n cap) zs) (k : Nat) (hk : k < zs.length) : ∃ b o, a? = some ⟨b, o, none⟩ ∧ w.cell? ⟨b, o + k * 8, none⟩ = some (.int .i64 zs[k].2.pair) ∧ w.cell? ⟨b, o + k * 8 + 1, none⟩ = some zs[k].1 ∧ w.cell? ⟨b, o + k * 8 + 2, none⟩ = some (.int .i64 zs[k].2.comma.a) ∧ w.cell? ⟨b, o + k * 8 + 3, none⟩ = some (.int .i64 zs[k].2.comma.b) ∧ w.cell? ⟨b, o + k * 8 + 4, none⟩ = some (.int .i64 zs[k].2.comma.c) ∧ w.cell? ⟨b, o + k * 8 + 5, none⟩ = some (.int .i64 zs[k].2.comma.d) ∧ w.cell? ⟨b, o + k * 8 + 6, none⟩ = some (.int .i64 zs[k].2.comma.e) ∧ w.cell? ⟨b, o + k * 8 + 7, none⟩ = some (.int .i64 zs[k].2.comma.f) := by
  obtain ⟨b, o, e, hc⟩ := h.at (by omega) k hk
  exact ⟨b, o, e, hc 0 (by omega), hc 1 (by omega), hc 2 (by omega), hc 3 (by omega), hc 4 (by omega), hc 5 (by omega), hc 6 (by omega), hc 7 (by omega)⟩
/-- What lies at place k of a row of chains. -/
theorem ChR.at {w : World} {v : Value} {l : List Cn} (h : ChR w v l) : ∃ a? c, v = .slice a? l.length c ∧ l.length ≤ 140737488351232 ∧ ∀ (w' : World) (x : Ext w w') (k : Nat) (hk : k < l.length), ∃ b o sv, a? = some ⟨b, o, none⟩ ∧ w'.cell? ⟨b, o + k * 8, none⟩ = some (.int .i64 l[k].pair) ∧ w'.cell? ⟨b, o + k * 8 + 1, none⟩ = some sv ∧ w'.cell? ⟨b, o + k * 8 + 2, none⟩ = some (.int .i64 l[k].comma.a) ∧ w'.cell? ⟨b, o + k * 8 + 3, none⟩ = some (.int .i64 l[k].comma.b) ∧ w'.cell? ⟨b, o + k * 8 + 4, none⟩ = some (.int .i64 l[k].comma.c) ∧ w'.cell? ⟨b, o + k * 8 + 5, none⟩ = some (.int .i64 l[k].comma.d) ∧ w'.cell? ⟨b, o + k * 8 + 6, none⟩ = some (.int .i64 l[k].comma.e) ∧ w'.cell? ⟨b, o + k * 8 + 7, none⟩ = some (.int .i64 l[k].comma.f) ∧ Sl w' 3 encSt sv l[k].steps := by
  obtain ⟨zs, rfl, S, hz⟩ := h
  obtain ⟨a?, c, rfl, -, -, h3⟩ := S.len
  refine ⟨a?, c, by rw [List.length_map], by rw [List.length_map]; exact h3, fun w' x k hk => ?_⟩
  have hk' : k < zs.length := by rw [List.length_map] at hk; exact hk
  obtain ⟨b, o, e, q⟩ := Sl.ck (S.ext x) k hk'
  have hm := (hz zs[k] (List.getElem_mem hk')).ext x
  simp only [List.getElem_map]
  exact ⟨b, o, _, e, q.1, q.2.1, q.2.2.1, q.2.2.2.1, q.2.2.2.2.1, q.2.2.2.2.2.1, q.2.2.2.2.2.2.1, q.2.2.2.2.2.2.2, hm⟩

end Go.Proofs.YthpfalbeieloaaaGreatDoor

/-
  Walks of blame: fits.
-/
set_option linter.unusedVariables false
namespace Go.Sx.Bl
open Go.Sx.Sz Go.Sx.Sc Go.Sx.Au Go.Sx.Po
theorem want_ok {x : V6} (h : within x 48 = true) : within (x.times 12) 576 = true ∧ szOk (wantS x) = true := by
  have h1 : within (x.times 12) 576 = true := times_within h
  exact ⟨h1, expo_ok (within_mono (by omega) h1)⟩
/-- A tone and a pitch's size compare as 0 exactly if the tone does not deviate. -/
theorem cmp_dev {z : S2} {x : V6} (hz : szOk z = true) (hx : within x 48 = true) : ∃ c, cmpR z (wantS x) = (c, 0) ∧ (c == 0) = !devB z x := by
  rw [cmpR, if_pos ⟨hz, (want_ok hx).2⟩]
  by_cases h1 : z.hi < (wantS x).lo
  · have : devB z x = true := devB_true.2 (.inr h1)
    rw [if_pos h1, this]; exact ⟨_, rfl, rfl⟩
  · by_cases h2 : (wantS x).hi < z.lo
    · have : devB z x = true := devB_true.2 (.inl h2)
      rw [if_neg h1, if_pos h2, this]; exact ⟨_, rfl, rfl⟩
    · have : devB z x = false := devB_false.2 (by omega)
      rw [if_neg h1, if_neg h2, this]; exact ⟨_, rfl, rfl⟩
end Go.Sx.Bl
namespace Go.Proofs.YthpfalbeieloaaaGreatDoor
open Go.RowKit Go.Sx Go.Sx.Sz Go.Sx.Sc Go.Sx.Au Go.Sx.Po Go.Sx.Bl

set_option maxRecDepth 100000 in
set_option maxHeartbeats 4000000 in
theorem bfits_walk (z : S2) (x : V6) (hz : szOk z = true) (hx : within x 48 = true) (w : World) (G : Gl 1 w) :
    Calls Tryz.prog 29 #[.agg #[.int .i64 z.lo, .int .i64 z.hi], .agg #[.int .i64 x.a, .int .i64 x.b, .int .i64 x.c, .int .i64 x.d, .int .i64 x.e, .int .i64 x.f]] w fun e w' => e = .returned (.bool (!devB z x)) ∧ Ext w w' := by
  obtain ⟨c, hc, hd⟩ := cmp_dev hz hx
  have ho := ofR_ok hx
  have hs := sizeR_ok (want_ok hx).1
  rw [← hd]
  have HC := Lib.hid hc; have HO := Lib.hid ho; have HS := Lib.hid hs
  clear hc ho hs hd hz hx
  have X0 : Ext w ((w.alloc (.cells (#[.int .i64 z.lo, .int .i64 z.hi] : Array Value) 110)).alloc (.cells (#[.int .i64 x.a, .int .i64 x.b, .int .i64 x.c, .int .i64 x.d, .int .i64 x.e, .int .i64 x.f] : Array Value) 44)) := (by repeat (first | with_reducible exact Ext.refl _ | with_reducible assumption | with_reducible apply Ext.alloc | with_reducible apply Ext.drew | (with_reducible refine Ext.setCell ?_ (by (try simp) <;> omega) _)))
  have b0_0 := block_alloc (block_new w (.cells (#[.int .i64 z.lo, .int .i64 z.hi] : Array Value) 110)) (.cells (#[.int .i64 x.a, .int .i64 x.b, .int .i64 x.c, .int .i64 x.d, .int .i64 x.e, .int .i64 x.f] : Array Value) 44)
  have b0_1 := block_at (w := (w.alloc (.cells (#[.int .i64 z.lo, .int .i64 z.hi] : Array Value) 110))) (n := w.heap.size + 1) (by simp) (.cells (#[.int .i64 x.a, .int .i64 x.b, .int .i64 x.c, .int .i64 x.d, .int .i64 x.e, .int .i64 x.f] : Array Value) 44)
  obtain ⟨W0, hW0⟩ : ∃ W, ((w.alloc (.cells (#[.int .i64 z.lo, .int .i64 z.hi] : Array Value) 110)).alloc (.cells (#[.int .i64 x.a, .int .i64 x.b, .int .i64 x.c, .int .i64 x.d, .int .i64 x.e, .int .i64 x.f] : Array Value) 44)) = W := ⟨_, rfl⟩
  obtain ⟨B0, hB0⟩ : ∃ B, w.heap.size = B := ⟨_, rfl⟩
  rw [hW0] at X0 b0_0 b0_1
  rw [hB0] at b0_0 b0_1
  have HZ0 : Hid (w.heap.size ≤ B0) := Lib.hid (by omega)
  have HW0 := Lib.hid hW0; have HB0 := Lib.hid hB0
  clear hW0 hB0
  have G1 := G.ext X0
  have HB1 := Lib.hid b0_1
  have d0 := block_cell b0_0 0 (.int .i64 z.lo) rfl; have d1 := block_cell b0_0 1 (.int .i64 z.hi) rfl
  have D0 := ext_cells d0; have D1 := ext_cells d1
  have a0 := block_cell b0_1 0 _ rfl; have a1 := block_cell b0_1 1 _ rfl; have a2 := block_cell b0_1 2 _ rfl; have a3 := block_cell b0_1 3 _ rfl; have a4 := block_cell b0_1 4 _ rfl; have a5 := block_cell b0_1 5 _ rfl
  have HWX : Hid (wantS x = expo (x.times 12)) := Lib.hid rfl
  obtain ⟨y, hy⟩ : ∃ y, x.times 12 = y := ⟨_, rfl⟩
  rw [hy] at HO HS HWX
  rw [HWX.out] at HC
  obtain ⟨⟨zl, zh⟩, hz⟩ : ∃ u, expo y = u := ⟨_, rfl⟩
  rw [hz] at HC HS
  clear hy hz b0_0 b0_1 d0 d1 HWX
  go_enter Tryz.func29, Tryz.ntmps29
  go_wp2_with fail
  rw [HW0.out, HB0.out]
  clear HW0 HB0
  refine (of_walk x _).mono ?_
  rw [HO.out]
  rintro e w1 ⟨rfl, x1⟩
  clear a0 a1 a2 a3 a4 a5
  have e1 := Ext.alloc' w1 (.cells (#[.int .i64 y.a, .int .i64 y.b, .int .i64 y.c, .int .i64 y.d, .int .i64 y.e, .int .i64 y.f] : Array Value) 79)
  go_wp2_with fail
  refine (sof_walk y _ (G1.ext (x1.trans e1))).mono ?_
  rw [HS.out]
  rintro e w2 ⟨rfl, x2⟩
  have e2 := Ext.alloc' w2 (.cells #[.int .i64 zl, .int .i64 zh] 50)
  have X2 := x1.trans (e1.trans (x2.trans e2))
  have d0 := D0 _ X2; have d1 := D1 _ X2
  go_wp2_with fail
  refine (cmp_walk z ⟨zl, zh⟩ _).mono ?_
  rw [HC.out]
  rintro e w3 ⟨rfl, x3⟩
  have HX := Lib.hid (X0.trans (X2.trans x3))
  clear d0 d1 X2 x1 x2 x3 e1 e2 X0 D0 D1
  cases hb : (c == 0) with
  | true =>
    go_wp2
    go_ret
    exact ⟨by simpa using hb, HX.out⟩
  | false =>
    go_wp2
    go_ret
    exact ⟨by simpa using hb, HX.out⟩
end Go.Proofs.YthpfalbeieloaaaGreatDoor

/-
  Walks of blame: hear.
-/
set_option linter.unusedVariables false
namespace Go.Sx.Bl
open Go.Sx Go.Sx.Sz Go.Sx.Sc Go.Sx.Au Go.Sx.Po Go.RowKit Go.WideMaps
/-- The deviants among the first k notes. -/
noncomputable def devM (xs : List V6) (l : List S2) : Nat → Lit → Option Lit
  | 0 => fun _ => none
  | k + 1 => if devT xs l k = true then updL (devM xs l k) (kZ (k : Int)) (.bool true) else devM xs l k
theorem devM_at (xs : List V6) (l : List S2) (x : Int) : ∀ k, devM xs l k (kZ x) = if (decide (0 ≤ x ∧ x < k) && devT xs l x.toNat) = true then some (.bool true) else none
  | 0 => by
    rw [if_neg]; rfl
    rw [decide_eq_false (by omega)]; simp
  | k + 1 => by
    unfold devM
    by_cases hd : devT xs l k = true
    · rw [if_pos hd]
      by_cases e : x = k
      · subst e
        rw [updL_same, decide_eq_true (by omega), Int.toNat_natCast, hd]; rfl
      · rw [updL_other _ (by unfold kZ; intro h; exact e (by simpa using h)), devM_at xs l x k]
        by_cases h : 0 ≤ x ∧ x < (k : Int)
        · rw [decide_eq_true h, decide_eq_true (by omega)]
        · rw [decide_eq_false h, decide_eq_false (by omega)]
    · rw [if_neg hd, devM_at xs l x k]
      by_cases e : x = k
      · subst e
        rw [Int.toNat_natCast]
        rw [Bool.not_eq_true] at hd
        rw [hd]; simp
      · by_cases h : 0 ≤ x ∧ x < (k : Int)
        · rw [decide_eq_true h, decide_eq_true (by omega)]
        · rw [decide_eq_false h, decide_eq_false (by omega)]
/-- How a look-up of a note ends. -/
theorem devM_look (xs : List V6) (l : List S2) (x : Int) (k : Nat) : devM xs l k (kZ x) = some (.bool (decide (0 ≤ x ∧ x < k) && devT xs l x.toNat)) ∨ (devM xs l k (kZ x) = none ∧ (decide (0 ≤ x ∧ x < k) && devT xs l x.toNat) = false) := by
  rw [devM_at]
  cases h : (decide (0 ≤ x ∧ x < k) && devT xs l x.toNat) with
  | true => exact .inl rfl
  | false => exact .inr ⟨rfl, rfl⟩
theorem hear_cases (s : Sc) (h : List V6) (l : List S2) : ((tuneR s h).2 = 1 ∨ (auditR s l).2 ≠ 0) ∧ hearE s h l = 1 ∨ ((tuneR s h).2 ≠ 1 ∧ (auditR s l).2 = 0) ∧ hearE s h l = (tuneR s h).2 ∧ tonesOk s l := by
  unfold hearE auditR
  rw [← tonesB_iff]
  cases ht : tonesB s l with
  | false => left; exact ⟨.inr (by simp), by simp⟩
  | true =>
    by_cases h1 : (tuneR s h).2 = 1
    · left; exact ⟨.inl h1, by rw [if_pos (.inl h1)]⟩
    · right; exact ⟨⟨h1, rfl⟩, by rw [if_neg (by simp [h1])], rfl⟩
theorem tune_in (s : Sc) (h : List V6) (k : Nat) (hk : k < (tuneR s h).1.length) : within (tuneR s h).1[k] 48 = true ∧ k < s.notes.length := by
  rcases tune_cases s h with ⟨-, h1, h2, h3⟩ | ⟨-, h2⟩
  · have hk' := hk
    rw [h3, xsL_len] at hk'
    refine ⟨within_mono (by omega) (show within (tuneR s h).1[k] 32 = true from ?_), Nat.lt_of_lt_of_le hk' (tun_le s _)⟩
    rw [← h3] at h2
    exact List.all_eq_true.1 h2 _ (List.getElem_mem hk)
  · rw [h2] at hk; exact absurd hk (Nat.not_lt_zero _)
/-- A row of numbers does not lie in a block without numbers. -/
theorem Sl.off {α : Type} {w : World} {sz : Nat} {enc : α → List Value} {a? : Option Addr} {n c g : Nat} {xs : List α} (S : Sl w sz enc (.slice a? n c) xs) (hs : 0 < sz) (he : ∀ x, ∃ k, (enc x).getD 0 undef = .int .i64 k)
    (hg : ∀ j k, w.cell? ⟨g, j, none⟩ ≠ some (.int .i64 k)) : xs ≠ [] → ∀ a n' c', Value.slice a? n c = .slice (some a) n' c' → a.block ≠ g := by
  intro hx a n' c' e hb
  obtain ⟨rfl, -, -⟩ : a? = some a ∧ n = n' ∧ c = c' := by simpa using e
  have h0 : 0 < xs.length := by cases xs with
    | nil => exact absurd rfl hx
    | cons _ _ => simp
  obtain ⟨b, o, e1, hc⟩ := S.at hs 0 h0
  obtain rfl : a = ⟨b, o, none⟩ := by simpa using e1
  obtain ⟨k, hk⟩ := he xs[0]
  have := hc 0 hs
  rw [hk] at this
  subst hb
  exact hg _ _ this
theorem rec_off {w : World} {g : Nat} {a b : Option Addr} {n c n' c' : Nat} {m : Option Nat} {t : TypeId} (h : w.heap[g]? = some (.cells #[.slice a n c, .slice b n' c', .map m] t (0, 0))) : ∀ j k, w.cell? ⟨g, j, none⟩ ≠ some (.int .i64 k) := by
  intro j k e
  rw [(block_rules h).1 j] at e
  rcases j with _ | _ | _ | j <;> simp at e
theorem map_off {w : World} {g : Nat} {o : Obj} (h : w.heap[g]? = some o) (ho : o.isCells = false) : ∀ j k, w.cell? ⟨g, j, none⟩ ≠ some (.int .i64 k) := by
  intro j k e
  unfold World.cell? at e
  rw [h] at e
  cases o <;> simp_all [Obj.isCells]
theorem el_v6 (x : V6) : ∃ k, (V6.list x).getD 0 undef = .int .i64 k := ⟨_, rfl⟩
end Go.Sx.Bl
namespace Go.Proofs.YthpfalbeieloaaaGreatDoor
open Go.RowKit Go.Sx Go.Sx.Sz Go.Sx.Sc Go.Sx.Au Go.Sx.Po Go.Sx.Bl Go.WideMaps
attribute [local go_sem] Oper.semAt_some wide_fn wide_depth

/-- What hear returns. -/
def HearP (w : World) (xs : List V6) (l : List S2) (fl : List Fnd) (he : Int) (e : Ending) (w' : World) : Prop :=
  ∃ (ax af : Option Addr) (nx cx nf cf b cnt : Nat), e = .returned (.tuple #[.agg #[.slice ax nx cx, .slice af nf cf, .map (some b)], .int .i64 he]) ∧
    (he = 0 → Sl w' 6 V6.list (.slice ax nx cx) xs ∧ Sl w' 3 encF (.slice af nf cf) fl ∧ MpL Tryz.prog 3 4 b cnt (devM xs l xs.length) w') ∧ Ext w w'

set_option maxRecDepth 100000 in
set_option maxHeartbeats 16000000 in
theorem hear_walk (vn vp vc vh vt : Value) (s : Sc) (h : List V6) (l : List S2) (w : World) (G : Gl 1 w) (S : ScR w vn vp vc s) (V : Sl w 6 V6.list vh h) (R : Sl w 2 encS vt l) :
    Calls Tryz.prog 28 #[.agg #[.int .i64 s.voices, vn, vp, vc], vh, vt, .func (.func 29) #[] #[]] w (HearP w (tuneR s h).1 l (auditR s l).1 (hearE s h l)) := by
  obtain ⟨an, cn, rfl, -, -, hln⟩ := S.nt.len
  obtain ⟨ap, cp, rfl, -, -, hlp⟩ := S.pr.len
  obtain ⟨ac, cc, rfl, -, -, hlc⟩ := S.cd.len
  obtain ⟨ah, ch, rfl, -, -, hlh⟩ := V.len
  obtain ⟨at', ct, rfl, -, -, hlt⟩ := R.len
  have TW := @tune_walk (.slice an s.notes.length cn) (.slice ap s.pairs.length cp) (.slice ac s.cads.length cc) (.slice ah h.length ch) s h
  have AW := @audit_walk (.slice an s.notes.length cn) (.slice ap s.pairs.length cp) (.slice ac s.cads.length cc) (.slice at' l.length ct) s l
  have hhc := hear_cases s h l
  have htk := tune_in s h
  have hta : hearE s h l = 0 → (tuneR s h).2 = 0 := fun e => (hear_ok.1 e).1
  obtain ⟨he, hhe⟩ : ∃ z, hearE s h l = z := ⟨_, rfl⟩
  obtain ⟨⟨tl, te⟩, hte⟩ : ∃ z, tuneR s h = z := ⟨_, rfl⟩
  obtain ⟨⟨fl, fe⟩, hfe⟩ : ∃ z, auditR s l = z := ⟨_, rfl⟩
  rw [hhe, hte, hfe] at hhc
  rw [hte] at TW htk
  rw [hfe] at AW
  rw [hhe, hte, hfe]
  simp only at hhc htk TW AW ⊢
  have HTW := Lib.hid TW; have HAW := Lib.hid AW; have HHC := Lib.hid hhc; have HTK := Lib.hid htk
  clear TW AW hhc htk hta hhe hte hfe
  have X0 : Ext w ((w.alloc (.cells #[.int .i64 s.voices, .slice an s.notes.length cn, .slice ap s.pairs.length cp, .slice ac s.cads.length cc] 26)).alloc (.cells #[.slice none 0 0, .slice none 0 0, .map none] 106)) := (by repeat (first | with_reducible exact Ext.refl _ | with_reducible assumption | with_reducible apply Ext.alloc | with_reducible apply Ext.drew | (with_reducible refine Ext.setCell ?_ (by (try simp) <;> omega) _)))
  have b0_0 := block_alloc (block_new w (.cells #[.int .i64 s.voices, .slice an s.notes.length cn, .slice ap s.pairs.length cp, .slice ac s.cads.length cc] 26)) (.cells #[.slice none 0 0, .slice none 0 0, .map none] 106)
  have b0_1 := block_at (w := (w.alloc (.cells #[.int .i64 s.voices, .slice an s.notes.length cn, .slice ap s.pairs.length cp, .slice ac s.cads.length cc] 26))) (n := w.heap.size + 1) (by simp) (.cells #[.slice none 0 0, .slice none 0 0, .map none] 106)
  obtain ⟨W0, hW0⟩ : ∃ W, ((w.alloc (.cells #[.int .i64 s.voices, .slice an s.notes.length cn, .slice ap s.pairs.length cp, .slice ac s.cads.length cc] 26)).alloc (.cells #[.slice none 0 0, .slice none 0 0, .map none] 106)) = W := ⟨_, rfl⟩
  obtain ⟨B0, hB0⟩ : ∃ B, w.heap.size = B := ⟨_, rfl⟩
  rw [hW0] at X0 b0_0 b0_1
  rw [hB0] at b0_0 b0_1
  have HZ0 : Hid (w.heap.size ≤ B0) := Lib.hid (by omega)
  have HW0 := Lib.hid hW0; have HB0 := Lib.hid hB0
  clear hW0 hB0
  have hz0 : W0.heap.size = B0 + 2 := by rw [← HW0.out, ← HB0.out]; simp
  have m0 := MpL.made W0 Tryz.prog 3 4
  have X1 : Ext W0 (W0.alloc (.map #[] 0)) := (by repeat (first | with_reducible exact Ext.refl _ | with_reducible assumption | with_reducible apply Ext.alloc | with_reducible apply Ext.drew | (with_reducible refine Ext.setCell ?_ (by (try simp) <;> omega) _)))
  have q0 := block_ext X1 b0_0; have q1 := block_ext X1 b0_1
  obtain ⟨W1, hW1⟩ : ∃ z, W0.alloc (.map #[] 0) = z := ⟨_, rfl⟩
  rw [hW1, hz0] at m0
  rw [hW1] at X1 q0 q1
  have hz1 : W1.heap.size = B0 + 3 := by rw [← hW1]; simp [hz0]
  have HW1 := Lib.hid hW1
  have X2 : Ext W1 (W1.alloc (.cells #[.slice none 0 0, .slice none 0 0, .map (some (B0 + 2))] 106)) := (by repeat (first | with_reducible exact Ext.refl _ | with_reducible assumption | with_reducible apply Ext.alloc | with_reducible apply Ext.drew | (with_reducible refine Ext.setCell ?_ (by (try simp) <;> omega) _)))
  have b2_0 := block_new W1 (.cells #[.slice none 0 0, .slice none 0 0, .map (some (B0 + 2))] 106)
  obtain ⟨W2, hW2⟩ : ∃ W, (W1.alloc (.cells #[.slice none 0 0, .slice none 0 0, .map (some (B0 + 2))] 106)) = W := ⟨_, rfl⟩
  obtain ⟨B2, hB2⟩ : ∃ B, W1.heap.size = B := ⟨_, rfl⟩
  rw [hW2] at X2 b2_0
  rw [hB2] at b2_0
  have HZ2 : Hid (W1.heap.size ≤ B2) := Lib.hid (by omega)
  have HW2 := Lib.hid hW2; have HB2 := Lib.hid hB2
  clear hW2 hB2
  have hmm := @run_makeMap Tryz.prog
  have q0 := block_ext X2 q0; have q1 := block_ext X2 q1
  have m2 := m0.ext X2
  have S1 := S.ext (X0.trans (X1.trans X2)); have V1 := V.ext (X0.trans (X1.trans X2)); have R1 := R.ext (X0.trans (X1.trans X2)); have G1 := G.ext (X0.trans (X1.trans X2))
  obtain rfl : B2 = B0 + 3 := HB2.out.symm.trans hz1
  have HQ1 := Lib.hid q1
  have c0 := block_cell q0 0 _ rfl; have c1 := block_cell q0 1 _ rfl; have c2 := block_cell q0 2 _ rfl; have c3 := block_cell q0 3 _ rfl
  have XW := Lib.hid (X0.trans (X1.trans X2))
  have HQ0 := Lib.hid q0
  have HB2' := Lib.hid b2_0
  have HM2 := Lib.hid m2
  have hbw : w.heap.size = B0 := HB0.out
  have HBW := Lib.hid hbw
  have HSS := Lib.hid S; have HVV := Lib.hid V; have HRR := Lib.hid R; have HGG := Lib.hid G
  clear S V R G m0 b0_0 b0_1 q0 q1 b2_0 m2 hbw
  go_enter Tryz.func28, Tryz.ntmps28
  go_upto_region 1 with fail
  rw [HW0.out, HB0.out]
  go_upto_region 2 with fail
  try rw [HW1.out]
  rw [HW2.out]
  clear hmm HW0 HB0 HW1 HW2 HB2 hz0 hz1 hW1 X0 X1 X2
  go_wp2_with fail
  refine (HTW.out _ S1 V1).mono ?_
  rintro e w3 ⟨v3, rfl, T3, x3⟩
  obtain ⟨ax, cx, rfl, -, -, hlx⟩ := T3.len
  have d3 := block_ext x3 HB2'.out
  have z0 := block_cell d3 0 (.slice none 0 0) rfl
  have f0 := block_free d3 0
  have D3 : (w3.setCell ⟨B0 + 3, 0, none⟩ (.slice ax tl.length cx)).heap[B0 + 3]? = some (.cells #[.slice ax tl.length cx, .slice none 0 0, .map (some (B0 + 2))] 106 (0, 0)) := block_set d3 0 (.slice ax tl.length cx)
  have T3' := T3.kb (kb_set w3 (B0 + 3) 0 (.slice ax tl.length cx)) (Sl.off T3 (by omega) el_v6 (rec_off d3))
  have Y3 : Ext w (w3.setCell ⟨B0 + 3, 0, none⟩ (.slice ax tl.length cx)) := (XW.out.trans x3).setCell (p := ⟨B0 + 3, 0, none⟩) (by have := HBW.out; show w.heap.size ≤ B0 + 3; omega) _
  have M3 := (HM2.out.ext x3).setCell ⟨B0 + 3, 0, none⟩ (.slice ax tl.length cx) (show B0 + 2 ≠ B0 + 3 by omega)
  have e0 := block_ne (block_ext x3 HQ0.out) (g := B0 + 3) 0 (.slice ax tl.length cx) (by omega)
  have e1 := block_ne (block_ext x3 HQ1.out) (g := B0 + 3) 0 (.slice ax tl.length cx) (by omega)
  have hz3 := x3.size
  clear c0 c1 c2 c3 S1 V1 R1 G1 T3
  go_upto_region 4 with fail
  have HT3 := Lib.hid T3'; have HD3 := Lib.hid D3; have HY3 := Lib.hid Y3; have HM3 := Lib.hid M3; have HE1 := Lib.hid e1
  have hz3' : B0 + 3 < (w3.setCell ⟨B0 + 3, 0, none⟩ (.slice ax tl.length cx)).heap.size := block_lt D3
  have c0 := block_cell e0 0 _ rfl; have c1 := block_cell e0 1 _ rfl; have c2 := block_cell e0 2 _ rfl; have c3 := block_cell e0 3 _ rfl
  obtain ⟨W3, hW3⟩ : ∃ z, w3.setCell ⟨B0 + 3, 0, none⟩ (.slice ax tl.length cx) = z := ⟨_, rfl⟩
  rw [hW3] at HT3 HD3 HY3 HM3 HE1 c0 c1 c2 c3 hz3' ⊢
  clear hW3 T3' D3 Y3 M3 e0 e1 z0 f0 d3 x3 hz3
  go_wp2_with fail
  refine (HAW.out _ (HGG.out.ext HY3.out) (HSS.out.ext HY3.out) (HRR.out.ext HY3.out)).mono ?_
  rintro e w4 ⟨v4, rfl, F4, x4⟩
  obtain ⟨af, cf, rfl, -, -, hlf⟩ := F4.len
  have d4 := block_ext x4 HD3.out
  have z1 := block_cell d4 1 (.slice none 0 0) rfl
  have f1 := block_free d4 1
  have D4 : (w4.setCell ⟨B0 + 3, 1, none⟩ (.slice af fl.length cf)).heap[B0 + 3]? = some (.cells #[.slice ax tl.length cx, .slice af fl.length cf, .map (some (B0 + 2))] 106 (0, 0)) := block_set d4 1 (.slice af fl.length cf)
  have T4 := (HT3.out.ext x4).kb (kb_set w4 (B0 + 3) 1 (.slice af fl.length cf)) (Sl.off (HT3.out.ext x4) (by omega) el_v6 (rec_off d4))
  have F4' := F4.kb (kb_set w4 (B0 + 3) 1 (.slice af fl.length cf)) (Sl.off F4 (by omega) (fun x => ⟨_, rfl⟩) (rec_off d4))
  have Y4 : Ext w (w4.setCell ⟨B0 + 3, 1, none⟩ (.slice af fl.length cf)) := (HY3.out.trans x4).setCell (p := ⟨B0 + 3, 1, none⟩) (by have := HBW.out; show w.heap.size ≤ B0 + 3; omega) _
  have M4 := (HM3.out.ext x4).setCell ⟨B0 + 3, 1, none⟩ (.slice af fl.length cf) (show B0 + 2 ≠ B0 + 3 by omega)
  have E4 := block_ne (block_ext x4 HE1.out) (g := B0 + 3) 1 (.slice af fl.length cf) (by omega)
  clear c0 c1 c2 c3 F4
  go_upto_region 5 with fail
  have HT4 := Lib.hid T4; have HF4 := Lib.hid F4'; have HD4 := Lib.hid D4; have HY4 := Lib.hid Y4; have HM4 := Lib.hid M4; have HE4 := Lib.hid E4
  obtain ⟨W4, hW4⟩ : ∃ z, w4.setCell ⟨B0 + 3, 1, none⟩ (.slice af fl.length cf) = z := ⟨_, rfl⟩
  rw [hW4] at HT4 HF4 HD4 HY4 HM4 HE4 ⊢
  clear hW4 T4 F4' D4 Y4 M4 E4 z1 f1 d4 x4 hz3' HT3 HD3 HY3 HM3 HE1
  rcases HHC.out with ⟨hbad, hhe⟩ | ⟨⟨hte, hfe⟩, hhe, htn⟩
  · subst hhe
    have r0 := block_cell HD4.out 0 _ rfl; have r1 := block_cell HD4.out 1 _ rfl; have r2 := block_cell HD4.out 2 _ rfl
    have E5 := setRow_at HE4.out #[.slice ax tl.length cx, .slice af fl.length cf, .map (some (B0 + 2))]
    have t0 := block_cell E5 0 _ rfl; have t1 := block_cell E5 1 _ rfl; have t2 := block_cell E5 2 _ rfl
    have XF := Lib.hid (HY4.out.setRow (g := B0 + 1) (by have := HBW.out; omega) #[.slice ax tl.length cx, .slice af fl.length cf, .map (some (B0 + 2))])
    clear E5
    by_cases h1 : te = 1
    · have t3 : (te == 1) = true := by rw [beq_iff_eq]; exact h1
      clear h1 hbad
      go_wp2_with (first | (refine wpList_store_row rfl _ _ _ rfl (B0 + 1) _ rfl rfl _ _ (HE4.out) (by kernel_rfl) rfl (by simp [Value.oneCell']) ?_) | fail)
      exact bodyPost_ret (v := .tuple #[.agg #[.slice ax tl.length cx, .slice af fl.length cf, .map (some (B0 + 2))], .int .i64 1]) (by simp [results, Tryz.results28, go_sem, t0, t1, t2]) rfl (show HearP _ _ _ _ _ _ _ from ⟨ax, af, _, cx, _, cf, B0 + 2, 0, rfl, fun h9 => absurd h9 (by decide), XF.out⟩)
    · have t3 : (te == 1) = false := by rw [beq_eq_false_iff_ne]; exact h1
      have t4 : (fe != 0) = true := by rw [bne_iff_ne]; exact hbad.resolve_left h1
      clear h1 hbad
      go_wp2_with (first | (refine wpList_store_row rfl _ _ _ rfl (B0 + 1) _ rfl rfl _ _ (HE4.out) (by kernel_rfl) rfl (by simp [Value.oneCell']) ?_) | fail)
      exact bodyPost_ret (v := .tuple #[.agg #[.slice ax tl.length cx, .slice af fl.length cf, .map (some (B0 + 2))], .int .i64 1]) (by simp [results, Tryz.results28, go_sem, t0, t1, t2]) rfl (show HearP _ _ _ _ _ _ _ from ⟨ax, af, _, cx, _, cf, B0 + 2, 0, rfl, fun h9 => absurd h9 (by decide), XF.out⟩)
  · subst hfe hhe
    have t3 : (he == 1) = false := by rw [beq_eq_false_iff_ne]; exact hte
    have r0 := block_cell HD4.out 0 _ rfl; have r1 := block_cell HD4.out 1 _ rfl; have r2 := block_cell HD4.out 2 _ rfl
    have hoff := Sl.off HT4.out (by omega) el_v6 (g := B0 + 2) (by obtain ⟨o, h1, h2⟩ := HM4.out.isMap; exact map_off h1 h2)
    have hoff2 := Sl.off HF4.out (by omega) (fun x => ⟨_, rfl⟩) (g := B0 + 2) (by obtain ⟨o, h1, h2⟩ := HM4.out.isMap; exact map_off h1 h2)
    have HOF := Lib.hid hoff; have HOF2 := Lib.hid hoff2
    have hn2 := htn.1.sz.2.1
    have hln2 := htn.2.1
    have hzz := htn.2.2
    have HLN := Lib.hid hln2; have HZZ := Lib.hid hzz
    have hvt : plainElem (H := Unit) Tryz.prog 4 (.bool true) = some (.lit (.bool true), []) := plainElem_bool Tryz.underlying4 true
    have HVT := Lib.hid hvt
    clear hte hoff hoff2 hln2 hzz htn hvt
    go_wp2
    clear t3 r0 r1 r2
    go_loopw [41] (fun i wr => ∃ k : Nat, k ≤ tl.length ∧ i = .int .i64 k ∧ MpL Tryz.prog 3 4 (B0 + 2) k (devM tl l k) wr ∧ Kb (some (B0 + 2)) W4 wr) (fun i _ => tl.length - (intOf i).toNat)
    case atStart => exact ⟨0, by omega, by first | rfl | trivial, HM4.out, Kb.refl _ _⟩
    case round =>
      obtain ⟨k, hk, rfl, Mk, K⟩ := hrel
      have Yk : Ext w wr := Below.trans HY4.out (K.below (B := w.heap.size) HY4.out.size (fun b e => by have := Option.some.inj e; have := HBW.out; omega))
      by_cases hlt : k < tl.length
      case pos =>
        have hin := HTK.out k hlt
        obtain ⟨bx, ox, rfl, a0, a1, a2, a3, a4, a5⟩ := Sl.vec (HT4.out.kb K HOF.out) k hlt
        have hl2 : k < l.length := by have := HLN.out; omega
        obtain ⟨bt, ot, rfl, u0, u1⟩ := Sl.sz (HRR.out.ext Yk) k hl2
        have hdt : devT tl l k = devB l[k] tl[k] := by unfold devT Go.Sx.Au.T xAt; rw [List.getD_eq_getElem?_getD, List.getD_eq_getElem?_getD, List.getElem?_eq_getElem hlt, List.getElem?_eq_getElem hl2]; rfl
        have hz9 := HZZ.out _ (List.getElem_mem hl2)
        obtain ⟨x, hx⟩ : ∃ x, tl[k] = x := ⟨_, rfl⟩
        obtain ⟨z, hz⟩ : ∃ z, l[k] = z := ⟨_, rfl⟩
        rw [hx] at a0 a1 a2 a3 a4 a5 hin hdt
        rw [hz] at u0 u1 hdt hz9
        have BF := Lib.hid fun w' (y : Ext w w') => bfits_walk z x hz9 hin.1 w' (HGG.out.ext y)
        obtain ⟨db, hdb⟩ : ∃ d, devB z x = d := ⟨_, rfl⟩
        rw [hdb] at BF hdt
        have i1 : (0 : Int) ≤ (k : Int) := by omega
        have i2 : (k : Int) < (tl.length : Int) := by omega
        have i3 : (k : Int) < (l.length : Int) := by omega
        have HDT := Lib.hid hdt
        have hk200 : k < 200 := by omega
        have HD9 := Lib.hid (K.block HD4.out (by omega))
        obtain ⟨wo, rfl⟩ : ∃ t : World, t = wr := ⟨_, rfl⟩
        clear hin hdt hz9 hx hz hdb hlt hl2
        go_upto_region 10 with fail
        have X5 : Ext wo (wo.alloc (.cells (#[.int .i64 x.a, .int .i64 x.b, .int .i64 x.c, .int .i64 x.d, .int .i64 x.e, .int .i64 x.f] : Array Value) 44)) := (by repeat (first | with_reducible exact Ext.refl _ | with_reducible assumption | with_reducible apply Ext.alloc | with_reducible apply Ext.drew | (with_reducible refine Ext.setCell ?_ (by (try simp) <;> omega) _)))
        have b5_0 := block_new wo (.cells (#[.int .i64 x.a, .int .i64 x.b, .int .i64 x.c, .int .i64 x.d, .int .i64 x.e, .int .i64 x.f] : Array Value) 44)
        obtain ⟨W5, hW5⟩ : ∃ W, (wo.alloc (.cells (#[.int .i64 x.a, .int .i64 x.b, .int .i64 x.c, .int .i64 x.d, .int .i64 x.e, .int .i64 x.f] : Array Value) 44)) = W := ⟨_, rfl⟩
        obtain ⟨B5, hB5⟩ : ∃ B, wo.heap.size = B := ⟨_, rfl⟩
        rw [hW5] at X5 b5_0
        rw [hB5] at b5_0
        have HZ5 : Hid (wo.heap.size ≤ B5) := Lib.hid (by omega)
        have HW5 := Lib.hid hW5; have HB5 := Lib.hid hB5
        clear hW5 hB5
        rw [HW5.out, HB5.out]
        clear HW5 HB5 a0 a1 a2 a3 a4 a5
        have u0 := ext_cells (X5.cell u0); have u1 := ext_cells (X5.cell u1)
        have g0 := ext_cells (block_cell b5_0 0 _ rfl); have g1 := ext_cells (block_cell b5_0 1 _ rfl); have g2 := ext_cells (block_cell b5_0 2 _ rfl); have g3 := ext_cells (block_cell b5_0 3 _ rfl); have g4 := ext_cells (block_cell b5_0 4 _ rfl); have g5 := ext_cells (block_cell b5_0 5 _ rfl)
        refine wp_region_ord [(0,true), (1,true), (2,true), (3,true), (4,true), (5,true), (6,true), (7,true)] 8 Ext (Ext W5) wide (by kernel_rfl) (stable_ext _) (Ext.drawn _ _) ?_
        iterate 6 (first | (apply wpOrd_no rfl; rfl; (simp only [List.getElem_toArray, List.getElem_cons_succ, List.getElem_cons_zero, Act.put, List.setIfInBounds_toArray, List.set_cons_succ, List.set_cons_zero]; rfl)) | (apply wpOrd_yes rfl; rfl; (intro w' hw'; unfold opR; go_simp; exact ⟨Ext.refl _, rfl⟩); (simp only [List.getElem_toArray, List.getElem_cons_succ, List.getElem_cons_zero, Act.put, List.setIfInBounds_toArray, List.set_cons_succ, List.set_cons_zero]; rfl)))
        (apply wpOrd_det rfl rfl; (intro w' hw'; refine opR_callv rfl (by rfl) (Go.Proofs.enters_of Tryz.func29 (by kernel_rfl) rfl) (by simp only [List.map_toArray, List.map_cons, List.map_nil, Act.eval, Array.getD_eq_getD_getElem?, List.getElem?_toArray, List.getElem?_cons_succ, List.getElem?_cons_zero, Option.getD_some]; rfl) ?_; refine (BF.out _ (Yk.trans (X5.trans hw'))).mono ?_; rintro e w'' ⟨rfl, hx⟩; exact ⟨_, rfl, hx, rfl⟩); (simp only [List.getElem_toArray, List.getElem_cons_succ, List.getElem_cons_zero, Act.put, List.setIfInBounds_toArray, List.set_cons_succ, List.set_cons_zero]; rfl))
        iterate 1 (first | (apply wpOrd_no rfl; rfl; (simp only [List.getElem_toArray, List.getElem_cons_succ, List.getElem_cons_zero, Act.put, List.setIfInBounds_toArray, List.set_cons_succ, List.set_cons_zero]; rfl)) | (apply wpOrd_yes rfl; rfl; (intro w' hw'; unfold opR; go_simp; exact ⟨Ext.refl _, rfl⟩); (simp only [List.getElem_toArray, List.getElem_cons_succ, List.getElem_cons_zero, Act.put, List.setIfInBounds_toArray, List.set_cons_succ, List.set_cons_zero]; rfl)))
        refine wpOrd_nil (l := []) rfl ?_
        intro w9 x9
        have r2 := block_cell (block_ext (X5.trans x9) HD9.out) 2 _ rfl
        have M9 := Mk.ext (X5.trans x9)
        have K9 := K.trans ((X5.trans x9).kb (some (B0 + 2)))
        clear g0 g1 g2 g3 g4 g5 u0 u1 b5_0
        cases db with
        | true =>
          obtain ⟨wN, hrun, MN, gr⟩ := M9.put_run keyedI Tryz.underlying104 (by unfold maxLen; omega) (keyI (x := (k : Int)) (by omega)) HVT.out
          have FIN : Hid (MpL Tryz.prog 3 4 (B0 + 2) (k + 1) (devM tl l (k + 1)) wN ∧ Kb (some (B0 + 2)) W4 wN) := Lib.hid ⟨by rw [devM, if_pos HDT.out]; exact MN, K9.trans (kb_grown gr)⟩
          clear MN gr K9 M9 Mk K Yk X5 x9
          go_wp2
          go_roundw
          case rel => exact ⟨k + 1, by omega, by go_num, FIN.out.1, FIN.out.2⟩
          case measure => simp [intOf] <;> omega
        | false =>
          have FIN : Hid (MpL Tryz.prog 3 4 (B0 + 2) (k + 1) (devM tl l (k + 1)) w9 ∧ Kb (some (B0 + 2)) W4 w9) := Lib.hid ⟨by rw [devM, if_neg (by rw [HDT.out]; exact Bool.false_ne_true)]; exact M9.mono (by omega), K9⟩
          clear K9 M9 Mk K Yk X5 x9
          go_wp2
          go_roundw
          case rel => exact ⟨k + 1, by omega, by go_num, FIN.out.1, FIN.out.2⟩
          case measure => simp [intOf] <;> omega
      case neg =>
        obtain rfl : k = tl.length := by omega
        have Tk := (HT4.out.kb K HOF.out); have Fk := (HF4.out.kb K HOF2.out)
        have D9 := K.block HD4.out (by omega)
        have E9 := K.block HE4.out (by omega)
        have r0 := block_cell D9 0 _ rfl; have r1 := block_cell D9 1 _ rfl; have r2 := block_cell D9 2 _ rfl
        have E5 := setRow_at E9 #[.slice ax tl.length cx, .slice af fl.length cf, .map (some (B0 + 2))]
        have t0 := block_cell E5 0 _ rfl; have t1 := block_cell E5 1 _ rfl; have t2 := block_cell E5 2 _ rfl
        have XF := Yk.setRow (g := B0 + 1) (by have := HBW.out; omega) #[.slice ax tl.length cx, .slice af fl.length cf, .map (some (B0 + 2))]
        have KR : Kb (some (B0 + 1)) wr (wr.setRow (B0 + 1) #[.slice ax tl.length cx, .slice af fl.length cf, .map (some (B0 + 2))]) := ⟨rfl, rfl, rfl, by simp, fun b hb hne => setRow_other wr (B0 + 1) b _ (fun e => hne (by rw [e]))⟩
        have TF := Tk.kb KR (Sl.off Tk (by omega) el_v6 (rec_off E9))
        have FF := Fk.kb KR (Sl.off Fk (by omega) (fun x => ⟨_, rfl⟩) (rec_off E9))
        have MF := Mk.kept (w' := wr.setRow (B0 + 1) #[.slice ax tl.length cx, .slice af fl.length cf, .map (some (B0 + 2))]) (setRow_other wr (B0 + 1) (B0 + 2) _ (by omega))
        have HE9 := Lib.hid E9
        have FIN := Lib.hid (And.intro TF (And.intro FF (And.intro MF XF)))
        clear TF FF MF XF KR Tk Fk E5 E9 D9 Mk K Yk
        go_wp2_with (first | (refine wpList_store_row rfl _ _ _ rfl (B0 + 1) _ rfl rfl _ _ (HE9.out) (by kernel_rfl) rfl (by simp [Value.oneCell']) ?_) | fail)
        exact bodyPost_ret (v := .tuple #[.agg #[.slice ax tl.length cx, .slice af fl.length cf, .map (some (B0 + 2))], .int .i64 he]) (by simp [results, Tryz.results28, go_sem, t0, t1, t2]) rfl (show HearP _ _ _ _ _ _ _ from ⟨ax, af, _, cx, _, cf, B0 + 2, tl.length, rfl, fun _ => ⟨FIN.out.1, FIN.out.2.1, FIN.out.2.2.1⟩, FIN.out.2.2.2⟩)
end Go.Proofs.YthpfalbeieloaaaGreatDoor

/-
  Walks of blame: Deviants.
-/
set_option linter.unusedVariables false
namespace Go.Sx.Bl
open Go.Sx Go.Sx.Sz Go.Sx.Sc Go.Sx.Au Go.Sx.Po Go.RowKit Go.WideMaps
end Go.Sx.Bl
namespace Go.Proofs.YthpfalbeieloaaaGreatDoor
open Go.RowKit Go.Sx Go.Sx.Sz Go.Sx.Sc Go.Sx.Au Go.Sx.Po Go.Sx.Bl Go.WideMaps
end Go.Proofs.YthpfalbeieloaaaGreatDoor

/-
  Walks of blame: Charges$1.
-/
set_option linter.unusedVariables false
namespace Go.Sx.Bl
open Go.Sx Go.Sx.Sz Go.Sx.Sc Go.Sx.Au Go.Sx.Po Go.RowKit Go.WideMaps
def chgX (d1 d2 bb : Bool) (i : Int) (p : Pr) : Chg := if d1 = true then ⟨i, 1, p.a⟩ else if d2 = true then ⟨i, 1, p.b⟩ else if bb = true then ⟨i, 2, -1⟩ else ⟨i, 3, -1⟩
/-- An element of an array of two integers by value. -/
theorem run_index_2a {P : Program} {t e : TypeId} (h : P.underlying t = some (.array 2 e)) (he : P.underlying e = some (.int .i64)) (hs : (P.info? e).map (·.size) = some 1) (a b : Int) (w : World) :
    (Instr.index t (.agg #[.int .i64 a, .int .i64 b]) (.int .i64 0)).run P w = .ok (.int .i64 a) w := by
  obtain ⟨i, hi, hz⟩ := Option.map_eq_some_iff.1 hs
  simp [Instr.index, run_underlying h, run_underlying he, asIntOf, part, isAgg, sizeOf, typeInfo, hi, hz]
theorem run_index_2b {P : Program} {t e : TypeId} (h : P.underlying t = some (.array 2 e)) (he : P.underlying e = some (.int .i64)) (hs : (P.info? e).map (·.size) = some 1) (a b : Int) (w : World) :
    (Instr.index t (.agg #[.int .i64 a, .int .i64 b]) (.int .i64 1)).run P w = .ok (.int .i64 b) w := by
  obtain ⟨i, hi, hz⟩ := Option.map_eq_some_iff.1 hs
  simp [Instr.index, run_underlying h, run_underlying he, asIntOf, part, isAgg, sizeOf, typeInfo, hi, hz]
end Go.Sx.Bl
namespace Go.Proofs.YthpfalbeieloaaaGreatDoor
open Go.RowKit Go.Sx Go.Sx.Sz Go.Sx.Sc Go.Sx.Au Go.Sx.Po Go.Sx.Bl Go.WideMaps
/-- What the closure returns. -/
def ChargeP (w : World) (c : Chg) (e : Ending) (w' : World) : Prop := e = .returned (.agg #[.int .i64 c.pair, .int .i64 c.kind, .int .i64 c.note]) ∧ Ext w w'
def encCg (c : Chg) : List Value := [.int .i64 c.pair, .int .i64 c.kind, .int .i64 c.note]

set_option maxRecDepth 100000 in
set_option maxHeartbeats 8000000 in
theorem charge_walk (rb mb M1 M2 c1 c2 : Nat) (vx vf : Value) (xs : List V6) (l : List S2) (S2' : Lit → Option Lit) (bb : Bool) (i : Int) (p : Pr) (hi : -1000000 ≤ i ∧ i ≤ 1000000) (hxl : xs.length ≤ 200) (ha : 0 ≤ p.a ∧ p.a < p.b) (hb : p.b < xs.length) (w : World)
    (hr : w.heap[rb]? = some (.cells #[vx, vf, .map (some M1)] 106 (0, 0))) (hm : w.heap[mb]? = some (.cells #[.map (some M2)] 104 (0, 0)))
    (D1 : MpL Tryz.prog 3 4 M1 c1 (devM xs l xs.length) w) (D2 : MpL Tryz.prog 3 4 M2 c2 S2' w) (hS : S2' (kZ i) = some (.bool bb) ∨ (S2' (kZ i) = none ∧ bb = false)) :
    Calls Tryz.prog 31 #[.int .i64 i, .agg #[.int .i64 p.a, .int .i64 p.b, .int .i64 p.want.a, .int .i64 p.want.b, .int .i64 p.want.c, .int .i64 p.want.d, .int .i64 p.want.e, .int .i64 p.want.f, .int .i64 p.bound], .pointer (some ⟨rb, 0, none⟩), .pointer (some ⟨mb, 0, none⟩)] w (ChargeP w (chgX (devT xs l p.a.toNat) (devT xs l p.b.toNat) bb i p)) := by
  have La := devM_look xs l p.a xs.length
  have Lb := devM_look xs l p.b xs.length
  rw [decide_eq_true (show 0 ≤ p.a ∧ p.a < (xs.length : Int) by omega), Bool.true_and] at La
  rw [decide_eq_true (show 0 ≤ p.b ∧ p.b < (xs.length : Int) by omega), Bool.true_and] at Lb
  obtain ⟨da, hda⟩ : ∃ d, devT xs l p.a.toNat = d := ⟨_, rfl⟩
  obtain ⟨db, hdb⟩ : ∃ d, devT xs l p.b.toNat = d := ⟨_, rfl⟩
  rw [hda] at La; rw [hdb] at Lb
  rw [hda, hdb]
  have X0 : Ext w ((w.alloc (.cells #[.int .i64 p.a, .int .i64 p.b, .int .i64 p.want.a, .int .i64 p.want.b, .int .i64 p.want.c, .int .i64 p.want.d, .int .i64 p.want.e, .int .i64 p.want.f, .int .i64 p.bound] 117)).alloc (.cells #[.int .i64 0, .int .i64 0, .int .i64 0] 70)) := (by repeat (first | with_reducible exact Ext.refl _ | with_reducible assumption | with_reducible apply Ext.alloc | with_reducible apply Ext.drew | (with_reducible refine Ext.setCell ?_ (by (try simp) <;> omega) _)))
  have b0_0 := block_alloc (block_new w (.cells #[.int .i64 p.a, .int .i64 p.b, .int .i64 p.want.a, .int .i64 p.want.b, .int .i64 p.want.c, .int .i64 p.want.d, .int .i64 p.want.e, .int .i64 p.want.f, .int .i64 p.bound] 117)) (.cells #[.int .i64 0, .int .i64 0, .int .i64 0] 70)
  have b0_1 := block_at (w := (w.alloc (.cells #[.int .i64 p.a, .int .i64 p.b, .int .i64 p.want.a, .int .i64 p.want.b, .int .i64 p.want.c, .int .i64 p.want.d, .int .i64 p.want.e, .int .i64 p.want.f, .int .i64 p.bound] 117))) (n := w.heap.size + 1) (by simp) (.cells #[.int .i64 0, .int .i64 0, .int .i64 0] 70)
  obtain ⟨W0, hW0⟩ : ∃ W, ((w.alloc (.cells #[.int .i64 p.a, .int .i64 p.b, .int .i64 p.want.a, .int .i64 p.want.b, .int .i64 p.want.c, .int .i64 p.want.d, .int .i64 p.want.e, .int .i64 p.want.f, .int .i64 p.bound] 117)).alloc (.cells #[.int .i64 0, .int .i64 0, .int .i64 0] 70)) = W := ⟨_, rfl⟩
  obtain ⟨B0, hB0⟩ : ∃ B, w.heap.size = B := ⟨_, rfl⟩
  rw [hW0] at X0 b0_0 b0_1
  rw [hB0] at b0_0 b0_1
  have HZ0 : Hid (w.heap.size ≤ B0) := Lib.hid (by omega)
  have HW0 := Lib.hid hW0; have HB0 := Lib.hid hB0
  clear hW0 hB0
  have D1' := D1.ext X0; have D2' := D2.ext X0
  have la := D1'.look_bool keyedI Tryz.underlying104 Tryz.underlying4 (by kernel_rfl) (keyI (x := p.a) (by omega)) La
  have lb := D1'.look_bool keyedI Tryz.underlying104 Tryz.underlying4 (by kernel_rfl) (keyI (x := p.b) (by omega)) Lb
  have lc := D2'.look_bool keyedI Tryz.underlying104 Tryz.underlying4 (by kernel_rfl) (keyI (x := i) hi) hS
  have r2 := block_cell (block_ext X0 hr) 2 _ rfl
  have m0 := block_cell (block_ext X0 hm) 0 _ rfl
  have p0 := block_cell b0_0 0 (.int .i64 p.a) rfl
  have p1 := block_cell b0_0 1 (.int .i64 p.b) rfl
  have HB1 := Lib.hid b0_1
  have HSZ : Hid (w.heap.size ≤ B0 + 1) := Lib.hid (by have := HB0.out; omega)
  have HX := Lib.hid X0
  have ia := fun (w : World) => run_index_2a (P := Tryz.prog) (t := 99) Tryz.underlying99 Tryz.underlying3 (by kernel_rfl) p.a p.b w
  have ib := fun (w : World) => run_index_2b (P := Tryz.prog) (t := 99) Tryz.underlying99 Tryz.underlying3 (by kernel_rfl) p.a p.b w
  clear D1 D2 D1' D2' La Lb hS hr hm hda hdb b0_0 b0_1 ha hb hxl hi X0
  go_enter Tryz.func31, Tryz.ntmps31
  go_wp2_with fail
  rw [HW0.out, HB0.out]
  clear HW0 HB0
  clear p0 p1
  go_loopw [14] (fun u wr => ∃ k : Nat, k ≤ 2 ∧ u = .int .i64 k ∧ (0 < k → da = false) ∧ (1 < k → db = false) ∧ wr = W0) (fun u _ => 2 - (intOf u).toNat)
  case atStart => exact ⟨0, by omega, by first | rfl | trivial, fun h => absurd h (by omega), fun h => absurd h (by omega), rfl⟩
  case round =>
    obtain ⟨k, hk, rfl, h1, h2, rfl⟩ := hrel
    have hk3 : k = 0 ∨ k = 1 ∨ k = 2 := by omega
    rcases hk3 with rfl | rfl | rfl
    · cases da with
      | true =>
        have E := setRow_at HB1.out #[.int .i64 i, .int .i64 1, .int .i64 p.a]
        have t0 := block_cell E 0 _ rfl; have t1 := block_cell E 1 _ rfl; have t2 := block_cell E 2 _ rfl
        have XF := Lib.hid (HX.out.setRow (g := B0 + 1) HSZ.out #[.int .i64 i, .int .i64 1, .int .i64 p.a])
        clear E
        go_wp2_with (first | (refine wpList_store_row rfl _ _ _ rfl (B0 + 1) _ rfl rfl _ _ (HB1.out) (by kernel_rfl) rfl (by simp [Value.oneCell']) ?_) | fail)
        exact bodyPost_ret (v := .agg #[.int .i64 i, .int .i64 1, .int .i64 p.a]) (by simp [results, Tryz.results31, go_sem, t0, t1, t2]) rfl (show ChargeP _ _ _ _ from ⟨by simp [chgX], XF.out⟩)
      | false =>
        clear h1 h2
        go_wp2
        go_roundw
        case rel => exact ⟨1, by omega, by first | rfl | simp, by simp, fun h => absurd h (by omega), by first | rfl | trivial⟩
        case measure => simp [intOf] <;> omega
    · obtain rfl : da = false := h1 (by omega)
      cases db with
      | true =>
        have E := setRow_at HB1.out #[.int .i64 i, .int .i64 1, .int .i64 p.b]
        have t0 := block_cell E 0 _ rfl; have t1 := block_cell E 1 _ rfl; have t2 := block_cell E 2 _ rfl
        have XF := Lib.hid (HX.out.setRow (g := B0 + 1) HSZ.out #[.int .i64 i, .int .i64 1, .int .i64 p.b])
        clear E
        go_wp2_with (first | (refine wpList_store_row rfl _ _ _ rfl (B0 + 1) _ rfl rfl _ _ (HB1.out) (by kernel_rfl) rfl (by simp [Value.oneCell']) ?_) | fail)
        exact bodyPost_ret (v := .agg #[.int .i64 i, .int .i64 1, .int .i64 p.b]) (by simp [results, Tryz.results31, go_sem, t0, t1, t2]) rfl (show ChargeP _ _ _ _ from ⟨by simp [chgX], XF.out⟩)
      | false =>
        clear h1 h2
        go_wp2
        go_roundw
        case rel => exact ⟨2, by omega, by first | rfl | simp, by simp, by simp, by first | rfl | trivial⟩
        case measure => simp [intOf] <;> omega
    · obtain rfl : da = false := h1 (by omega)
      obtain rfl : db = false := h2 (by omega)
      clear h1 h2
      cases bb with
      | true =>
        have E := setRow_at HB1.out #[.int .i64 i, .int .i64 2, .int .i64 (-1)]
        have t0 := block_cell E 0 _ rfl; have t1 := block_cell E 1 _ rfl; have t2 := block_cell E 2 _ rfl
        have XF := Lib.hid (HX.out.setRow (g := B0 + 1) HSZ.out #[.int .i64 i, .int .i64 2, .int .i64 (-1)])
        clear E
        go_wp2_with (first | (refine wpList_store_row rfl _ _ _ rfl (B0 + 1) _ rfl rfl _ _ (HB1.out) (by kernel_rfl) rfl (by simp [Value.oneCell']) ?_) | fail)
        exact bodyPost_ret (v := .agg #[.int .i64 i, .int .i64 2, .int .i64 (-1)]) (by simp [results, Tryz.results31, go_sem, t0, t1, t2]) rfl (show ChargeP _ _ _ _ from ⟨by simp [chgX], XF.out⟩)
      | false =>
        have E := setRow_at HB1.out #[.int .i64 i, .int .i64 3, .int .i64 (-1)]
        have t0 := block_cell E 0 _ rfl; have t1 := block_cell E 1 _ rfl; have t2 := block_cell E 2 _ rfl
        have XF := Lib.hid (HX.out.setRow (g := B0 + 1) HSZ.out #[.int .i64 i, .int .i64 3, .int .i64 (-1)])
        clear E
        go_wp2_with (first | (refine wpList_store_row rfl _ _ _ rfl (B0 + 1) _ rfl rfl _ _ (HB1.out) (by kernel_rfl) rfl (by simp [Value.oneCell']) ?_) | fail)
        exact bodyPost_ret (v := .agg #[.int .i64 i, .int .i64 3, .int .i64 (-1)]) (by simp [results, Tryz.results31, go_sem, t0, t1, t2]) rfl (show ChargeP _ _ _ _ from ⟨by simp [chgX], XF.out⟩)
end Go.Proofs.YthpfalbeieloaaaGreatDoor

/-
  Walks of blame: Charges.
-/
set_option linter.unusedVariables false
namespace Go.Sx.Bl
open Go.Sx Go.Sx.Sz Go.Sx.Sc Go.Sx.Au Go.Sx.Po Go.RowKit Go.WideMaps
/-- The pairs of the first k chains. -/
noncomputable def brM (l : List Cn) : Nat → Lit → Option Lit
  | 0 => fun _ => none
  | k + 1 => updL (brM l k) (kZ (l.getD k default).pair) (.bool true)
theorem brM_at (l : List Cn) (x : Int) : ∀ k, k ≤ l.length → brM l k (kZ x) = if ((l.take k).any fun c => decide (c.pair = x)) = true then some (.bool true) else none
  | 0, _ => by rw [if_neg]; rfl; simp
  | k + 1, h => by
    have hk : k < l.length := by omega
    unfold brM
    rw [List.take_succ_eq_append_getElem hk, List.any_append]
    have hg : l.getD k default = l[k] := by rw [List.getD_eq_getElem?_getD, List.getElem?_eq_getElem hk]; rfl
    rw [hg]
    by_cases e : l[k].pair = x
    · rw [e, updL_same, if_pos]
      simp [e]
    · rw [updL_other _ (by unfold kZ; intro h'; exact e (by simpa using h'.symm)), brM_at l x k (by omega)]
      simp [e]
theorem brM_look {s : Sc} {xs : List V6} {i : Nat} (hi : i < s.pairs.length) : brM (brkL s xs) (brkL s xs).length (kZ (i : Int)) = some (.bool (brkT s xs i)) ∨ (brM (brkL s xs) (brkL s xs).length (kZ (i : Int)) = none ∧ brkT s xs i = false) := by
  rw [brM_at _ _ _ (Nat.le_refl _), List.take_length]
  cases h : brkT s xs i with
  | true =>
    left
    rw [if_pos]
    rw [List.any_eq_true]
    exact ⟨cnF s xs i, mem_brkL.2 ⟨i, hi, h, rfl⟩, by simp [cnF]⟩
  | false =>
    right
    refine ⟨?_, rfl⟩
    rw [if_neg]
    rw [List.any_eq_true]
    rintro ⟨c, hc, he⟩
    obtain ⟨j, hj, hb, rfl⟩ := mem_brkL.1 hc
    have h9 : (j : Int) = (i : Int) := of_decide_eq_true he
    have : j = i := by omega
    rw [this, h] at hb; cases hb
theorem brk_len (s : Sc) (xs : List V6) : (brkL s xs).length ≤ s.pairs.length := by
  unfold brkL
  rw [List.length_map]
  exact Nat.le_trans (List.length_filter_le _ _) (by simp)
/-- The charges of the first k pairs. -/
def cgK (s : Sc) (xs : List V6) (l : List S2) (k : Nat) : List Chg := ((List.range k).filter (chgB s xs l)).map (chgF s xs l)
theorem cgK_yes {s : Sc} {xs : List V6} {l : List S2} {k : Nat} (h : chgB s xs l k = true) : cgK s xs l (k + 1) = cgK s xs l k ++ [chgF s xs l k] := by
  unfold cgK; rw [List.range_succ, List.filter_append, List.map_append]; simp [h]
theorem cgK_no {s : Sc} {xs : List V6} {l : List S2} {k : Nat} (h : chgB s xs l k = false) : cgK s xs l (k + 1) = cgK s xs l k := by
  unfold cgK; rw [List.range_succ, List.filter_append, List.map_append]; simp [h]
theorem cgK_len (s : Sc) (xs : List V6) (l : List S2) (k : Nat) : (cgK s xs l k).length ≤ k := by
  unfold cgK; rw [List.length_map]
  exact Nat.le_trans (List.length_filter_le _ _) (by simp)
theorem chgX_eq (s : Sc) (xs : List V6) (l : List S2) (k : Nat) : chgX (devT xs l (s.P k).a.toNat) (devT xs l (s.P k).b.toNat) (brkT s xs k) (k : Int) (s.P k) = chgF s xs l k := rfl
theorem brk_pair {s : Sc} {xs : List V6} {k : Nat} (hk : k < (brkL s xs).length) : ∃ i : Nat, i < s.pairs.length ∧ (brkL s xs)[k].pair = i := by
  obtain ⟨j, hj, -, e⟩ := mem_brkL.1 (List.getElem_mem hk)
  exact ⟨j, hj, by rw [e]; rfl⟩
end Go.Sx.Bl
namespace Go.Proofs.YthpfalbeieloaaaGreatDoor
open Go.RowKit Go.Sx Go.Sx.Sz Go.Sx.Sc Go.Sx.Au Go.Sx.Po Go.Sx.Bl Go.WideMaps
theorem et_cg : ET Tryz.prog 65 70 3 24 := .mk' (z := .agg #[.int .i64 0, .int .i64 0, .int .i64 0]) Tryz.underlying65 (by kernel_rfl) rfl (by decide) (by decide)
theorem chgR_no {s : Sc} {h : List V6} {l : List S2} (he : hearE s h l ≠ 0) : chgR s h l = ([], hearE s h l) := by unfold chgR; rw [if_neg he]
theorem chgR_yes {s : Sc} {h : List V6} {l : List S2} (he : hearE s h l = 0) : chgR s h l = (chgL s (tuneR s h).1 l, 0) ∧ brkR s h = (brkL s (tuneR s h).1, 0) ∧ (auditR s l).1 = (List.range s.pairs.length).map (fdOf s l) ∧ tonesOk s l ∧ (tuneR s h).1.length ≤ s.notes.length := by
  obtain ⟨h1, h2⟩ := hear_ok.1 he
  obtain ⟨-, h3, -⟩ := tune_ok h1
  refine ⟨by unfold chgR; rw [if_pos he], by unfold brkR; rw [if_pos h1], by unfold auditR; rw [if_pos (tonesB_iff.2 h2)], h2, by rw [h3, xsL_len]; exact tun_le s _⟩

set_option maxRecDepth 100000 in
set_option maxHeartbeats 16000000 in
theorem charges_walk (vn vp vc vh vt : Value) (s : Sc) (h : List V6) (l : List S2) (w : World) (G : Gl 1 w) (S : ScR w vn vp vc s) (V : Sl w 6 V6.list vh h) (R : Sl w 2 encS vt l) :
    Calls Tryz.prog 12 #[.agg #[.int .i64 s.voices, vn, vp, vc], vh, vt] w fun e w' => ∃ v, e = .returned (.tuple #[v, .int .i64 (chgR s h l).2]) ∧ Sl w' 3 encCg v (chgR s h l).1 ∧ Ext w w' := by
  obtain ⟨an, cn, rfl, -, -, hln⟩ := S.nt.len
  obtain ⟨ap, cp, rfl, -, -, hlp⟩ := S.pr.len
  obtain ⟨ac, cc, rfl, -, -, hlc⟩ := S.cd.len
  obtain ⟨ah, ch, rfl, -, -, hlh⟩ := V.len
  obtain ⟨at', ct, rfl, -, -, hlt⟩ := R.len
  have X0 : Ext w (w.alloc (.cells #[.int .i64 s.voices, .slice an s.notes.length cn, .slice ap s.pairs.length cp, .slice ac s.cads.length cc] 26)) := (by repeat (first | with_reducible exact Ext.refl _ | with_reducible assumption | with_reducible apply Ext.alloc | with_reducible apply Ext.drew | (with_reducible refine Ext.setCell ?_ (by (try simp) <;> omega) _)))
  have b0_0 := block_new w (.cells #[.int .i64 s.voices, .slice an s.notes.length cn, .slice ap s.pairs.length cp, .slice ac s.cads.length cc] 26)
  obtain ⟨W0, hW0⟩ : ∃ W, (w.alloc (.cells #[.int .i64 s.voices, .slice an s.notes.length cn, .slice ap s.pairs.length cp, .slice ac s.cads.length cc] 26)) = W := ⟨_, rfl⟩
  obtain ⟨B0, hB0⟩ : ∃ B, w.heap.size = B := ⟨_, rfl⟩
  rw [hW0] at X0 b0_0
  rw [hB0] at b0_0
  have HZ0 : Hid (w.heap.size ≤ B0) := Lib.hid (by omega)
  have HW0 := Lib.hid hW0; have HB0 := Lib.hid hB0
  clear hW0 hB0
  have HW := Lib.hid (hear_walk _ _ _ _ _ s h l W0 (G.ext X0) (S.ext X0) (V.ext X0) (R.ext X0))
  have CB := Lib.hid (boxS b0_0)
  have BW := Lib.hid fun w' (y : Ext W0 w') => broken0_walk _ _ _ _ s h w' (G.ext (X0.trans y)) (S.ext (X0.trans y)) (V.ext (X0.trans y))
  have c0 := block_cell b0_0 0 _ rfl; have c1 := block_cell b0_0 1 _ rfl; have c2 := block_cell b0_0 2 _ rfl; have c3 := block_cell b0_0 3 _ rfl
  have HS := Lib.hid S
  have hdy := @chgR_yes s h l; have hdn := @chgR_no s h l
  obtain ⟨he, hhe⟩ : ∃ z, hearE s h l = z := ⟨_, rfl⟩
  obtain ⟨xs, hxs⟩ : ∃ z, (tuneR s h).1 = z := ⟨_, rfl⟩
  obtain ⟨fl, hfl⟩ : ∃ z, (auditR s l).1 = z := ⟨_, rfl⟩
  obtain ⟨⟨bl, be⟩, hb⟩ : ∃ z, brkR s h = z := ⟨_, rfl⟩
  obtain ⟨⟨dl, de⟩, hd⟩ : ∃ z, chgR s h l = z := ⟨_, rfl⟩
  rw [hhe, hxs, hfl] at HW
  rw [hb] at BW
  rw [hhe, hxs, hd, hb, hfl] at hdy
  rw [hhe, hd] at hdn
  rw [hd]
  have HDY := Lib.hid hdy; have HDN := Lib.hid hdn
  clear S V R G b0_0 hdy hdn hhe hxs hd hfl hb
  go_enter Tryz.func12, Tryz.ntmps12
  go_wp2_with fail
  rw [HW0.out, HB0.out]
  clear HW0 HB0
  refine HW.out.mono ?_
  rintro e w1 ⟨ax, af, nx, cx, nf, cf, b, cnt, rfl, hok, x1⟩
  clear c0 c1 c2 c3
  have X2 : Ext w1 (w1.alloc (.cells #[.slice ax nx cx, .slice af nf cf, .map (some b)] 106)) := (by repeat (first | with_reducible exact Ext.refl _ | with_reducible assumption | with_reducible apply Ext.alloc | with_reducible apply Ext.drew | (with_reducible refine Ext.setCell ?_ (by (try simp) <;> omega) _)))
  have b2_0 := block_new w1 (.cells #[.slice ax nx cx, .slice af nf cf, .map (some b)] 106)
  obtain ⟨W2, hW2⟩ : ∃ W, (w1.alloc (.cells #[.slice ax nx cx, .slice af nf cf, .map (some b)] 106)) = W := ⟨_, rfl⟩
  obtain ⟨B2, hB2⟩ : ∃ B, w1.heap.size = B := ⟨_, rfl⟩
  rw [hW2] at X2 b2_0
  rw [hB2] at b2_0
  have HZ2 : Hid (w1.heap.size ≤ B2) := Lib.hid (by omega)
  have HW2 := Lib.hid hW2; have HB2 := Lib.hid hB2
  clear hW2 hB2
  have XX := Lib.hid (X0.trans (x1.trans X2))
  by_cases h0 : he = 0
  case neg =>
    obtain ⟨rfl, rfl⟩ : dl = [] ∧ de = he := by simpa using HDN.out h0
    have t1 : (de != 0) = true := by rw [bne_iff_ne]; exact h0
    clear h0
    go_wp2
    rw [HW2.out]
    go_ret2
    exact ⟨_, rfl, Sl.nil _ _ _, XX.out⟩
  case pos =>
  subst h0
  obtain ⟨hcd, hbd, rfl, htn, hxn⟩ := HDY.out rfl
  obtain ⟨rfl, rfl⟩ : dl = chgL s xs l ∧ de = 0 := by simpa using hcd
  obtain ⟨rfl, rfl⟩ : bl = brkL s xs ∧ be = 0 := by simpa using hbd
  have hn2 := htn.1.sz.2.1
  have hp2 := htn.1.sz.2.2.1
  obtain ⟨TX, TF, MM⟩ := hok rfl
  obtain ⟨a', c', e', -, -, -⟩ := TX.len
  obtain ⟨rfl, rfl, rfl⟩ : ax = a' ∧ nx = xs.length ∧ cx = c' := by simpa using e'
  obtain ⟨a'', c'', e'', -, -, -⟩ := TF.len
  obtain ⟨rfl, rfl, rfl⟩ : af = a'' ∧ nf = s.pairs.length ∧ cf = c'' := by simpa using e''
  have M2 := MM.ext X2
  have TF2 := Lib.hid (TF.ext X2)
  have HB2' := Lib.hid b2_0
  have XA := x1.trans X2
  have HTN := Lib.hid htn; have HXN := Lib.hid hxn; have HM2 := Lib.hid M2
  clear TX TF MM e' e'' hok x1 X0 X2 b2_0 hcd hbd htn hxn M2
  go_upto_region 4 with fail
  rw [HW2.out, HB2.out]
  clear HW2 HB2
  obtain ⟨c0, c1, c2, c3⟩ := CB.out _ XA
  go_wp2_with fail
  refine (BW.out _ XA).mono ?_
  rintro e w3 ⟨v3, rfl, C3, x3⟩
  obtain ⟨a3, q3, rfl, hl3, AT⟩ := C3.at
  have HAT := Lib.hid AT
  clear c0 c1 c2 c3 C3 AT
  go_upto_region 5 with fail
  have m4 := MpL.made w3 Tryz.prog 3 4
  have X4 : Ext w3 (w3.alloc (.map #[] 0)) := (by repeat (first | with_reducible exact Ext.refl _ | with_reducible assumption | with_reducible apply Ext.alloc | with_reducible apply Ext.drew | (with_reducible refine Ext.setCell ?_ (by (try simp) <;> omega) _)))
  have hmm := @run_makeMap Tryz.prog
  obtain ⟨M, hM⟩ : ∃ z, w3.heap.size = z := ⟨_, rfl⟩
  obtain ⟨W4, hW4⟩ : ∃ z, w3.alloc (.map #[] 0) = z := ⟨_, rfl⟩
  rw [hW4, hM] at m4
  rw [hW4] at X4
  have hz4 : W4.heap.size = M + 1 := by rw [← hW4, ← hM]; simp
  have X5 : Ext W4 (W4.alloc (.cells #[.map (some M)] 104)) := (by repeat (first | with_reducible exact Ext.refl _ | with_reducible assumption | with_reducible apply Ext.alloc | with_reducible apply Ext.drew | (with_reducible refine Ext.setCell ?_ (by (try simp) <;> omega) _)))
  have b5_0 := block_new W4 (.cells #[.map (some M)] 104)
  obtain ⟨W5, hW5⟩ : ∃ W, (W4.alloc (.cells #[.map (some M)] 104)) = W := ⟨_, rfl⟩
  obtain ⟨B5, hB5⟩ : ∃ B, W4.heap.size = B := ⟨_, rfl⟩
  rw [hW5] at X5 b5_0
  rw [hB5] at b5_0
  have HZ5 : Hid (W4.heap.size ≤ B5) := Lib.hid (by omega)
  have HW5 := Lib.hid hW5; have HB5 := Lib.hid hB5
  clear hW5 hB5
  obtain rfl : B5 = M + 1 := HB5.out.symm.trans hz4
  have M5 := m4.ext X5
  have HB5' := Lib.hid b5_0
  have X35 := X4.trans X5
  go_upto_region 6 with fail
  rw [HW5.out]
  have hz5 : M + 2 ≤ W5.heap.size := by have := block_lt HB5'.out; omega
  have hvt : plainElem (H := Unit) Tryz.prog 4 (.bool true) = some (.lit (.bool true), []) := plainElem_bool Tryz.underlying4 true
  have HVT := Lib.hid hvt
  have X35' := Lib.hid X35
  have HM := Lib.hid hM
  have hbl := brk_len s xs
  clear hmm hW4 HW5 HB5 m4 X4 X5 b5_0 hz4 hvt X35 hM
  go_wp2
  go_loopw [39] (fun i wr => ∃ k : Nat, k ≤ (brkL s xs).length ∧ i = .int .i64 k ∧ MpL Tryz.prog 3 4 M k (brM (brkL s xs) k) wr ∧ Kb (some M) W5 wr) (fun i _ => (brkL s xs).length - (intOf i).toNat)
  case atStart => exact ⟨0, by omega, by first | rfl | trivial, M5, Kb.refl _ _⟩
  case round =>
    obtain ⟨k, hk, rfl, Mk, K⟩ := hrel
    have X3k : Ext w3 wr := Below.trans X35'.out (K.below (B := w3.heap.size) X35'.out.size (fun b e => by have := Option.some.inj e; have := HM.out; omega))
    have HB9 := Lib.hid (K.block HB5'.out (by omega))
    by_cases hlt : k < (brkL s xs).length
    case pos =>
      obtain ⟨bc, oc, sv, rfl, a0, a1, a2, a3, a4, a5, a6, a7, TS⟩ := HAT.out wr X3k k hlt
      obtain ⟨as', cs', rfl, -, -, -⟩ := TS.len
      obtain ⟨i, hi, hpi⟩ := brk_pair hlt
      have hgd : (brkL s xs).getD k default = (brkL s xs)[k] := by rw [List.getD_eq_getElem?_getD, List.getElem?_eq_getElem hlt]; rfl
      have hst : brM (brkL s xs) (k + 1) = updL (brM (brkL s xs) k) (kZ (i : Int)) (.bool true) := by rw [brM, hgd, hpi]
      rw [hpi] at a0
      obtain ⟨cm, hcm⟩ : ∃ z, (brkL s xs)[k] = z := ⟨_, rfl⟩
      rw [hcm] at a1 a2 a3 a4 a5 a6 a7
      have HST := Lib.hid hst
      have i1 : (0 : Int) ≤ (k : Int) := by omega
      have i2 : (k : Int) < ((brkL s xs).length : Int) := by omega
      obtain ⟨wo, rfl⟩ : ∃ t : World, t = wr := ⟨_, rfl⟩
      clear hgd hst hpi TS hcm
      go_upto_region 9 with fail
      have X6 : Ext wo (wo.alloc (.cells #[.int .i64 i, .slice as' cm.steps.length cs', .int .i64 cm.comma.a, .int .i64 cm.comma.b, .int .i64 cm.comma.c, .int .i64 cm.comma.d, .int .i64 cm.comma.e, .int .i64 cm.comma.f] 115)) := (by repeat (first | with_reducible exact Ext.refl _ | with_reducible assumption | with_reducible apply Ext.alloc | with_reducible apply Ext.drew | (with_reducible refine Ext.setCell ?_ (by (try simp) <;> omega) _)))
      have b6_0 := block_new wo (.cells #[.int .i64 i, .slice as' cm.steps.length cs', .int .i64 cm.comma.a, .int .i64 cm.comma.b, .int .i64 cm.comma.c, .int .i64 cm.comma.d, .int .i64 cm.comma.e, .int .i64 cm.comma.f] 115)
      obtain ⟨W6, hW6⟩ : ∃ W, (wo.alloc (.cells #[.int .i64 i, .slice as' cm.steps.length cs', .int .i64 cm.comma.a, .int .i64 cm.comma.b, .int .i64 cm.comma.c, .int .i64 cm.comma.d, .int .i64 cm.comma.e, .int .i64 cm.comma.f] 115)) = W := ⟨_, rfl⟩
      obtain ⟨B6, hB6⟩ : ∃ B, wo.heap.size = B := ⟨_, rfl⟩
      rw [hW6] at X6 b6_0
      rw [hB6] at b6_0
      have HZ6 : Hid (wo.heap.size ≤ B6) := Lib.hid (by omega)
      have HW6 := Lib.hid hW6; have HB6 := Lib.hid hB6
      clear hW6 hB6
      rw [HW6.out, HB6.out]
      have d0 := block_cell b6_0 0 (.int .i64 i) rfl
      have r0 := block_cell (block_ext X6 HB9.out) 0 _ rfl
      have M6 := Mk.ext X6
      have K6 := K.trans (X6.kb (some M))
      obtain ⟨wN, hrun, MN, gr⟩ := M6.put_run keyedI Tryz.underlying104 (by unfold maxLen; omega) (keyI (x := (i : Int)) (by omega)) HVT.out
      have FIN : Hid (MpL Tryz.prog 3 4 M (k + 1) (brM (brkL s xs) (k + 1)) wN ∧ Kb (some M) W5 wN) := Lib.hid ⟨by rw [HST.out]; exact MN, K6.trans (kb_grown gr)⟩
      clear HW6 HB6 MN gr M6 K6 Mk K a0 a1 a2 a3 a4 a5 a6 a7 b6_0 X6
      go_wp2
      go_roundw
      case rel => exact ⟨k + 1, by omega, by go_num, FIN.out.1, FIN.out.2⟩
      case measure => simp [intOf] <;> omega
    case neg =>
      obtain rfl : k = (brkL s xs).length := by omega
      have X2k := x3.trans X3k
      have r1 := block_cell (block_ext X2k HB2'.out) 1 _ rfl
      have D2 := Lib.hid Mk
      have HXw := Lib.hid X2k
      have HW0k := Lib.hid (XA.trans X2k)
      clear Mk K X3k hlt hk X2k M5
      obtain ⟨w7, rfl⟩ : ∃ t : World, t = wr := ⟨_, rfl⟩
      go_wp2
      clear r1
      go_loopw [16, 51] (fun v i wr => ∃ k : Nat, k ≤ s.pairs.length ∧ i = .int .i64 k ∧ OwnR wr w7.heap.size 70 3 encCg v (cgK s xs l k) ∧ Ext w7 wr) (fun _ i _ => s.pairs.length - (intOf i).toNat)
      case atStart => exact ⟨0, by omega, by first | rfl | trivial, OwnR.nil, Ext.refl _⟩
      case round =>
        obtain ⟨k, hk, rfl, own, X⟩ := hrel
        by_cases hlt : k < s.pairs.length
        case pos =>
          have hkf : k < ((List.range s.pairs.length).map (fdOf s l)).length := by simpa using hlt
          have XX2 := HXw.out.trans X
          obtain ⟨bf, of, rfl, e0, e1, e2⟩ := Sl.fd (TF2.out.ext XX2) k hkf
          rw [List.getElem_map, List.getElem_range] at e0 e1 e2
          obtain ⟨bp, op, rfl, A⟩ := Sl.pr (HS.out.pr.ext (XX.out.trans XX2)) k hlt
          rw [← Sc.P_eq hlt] at A
          have hpo := HTN.out.1.pr.1 k hlt
          unfold pairOk at hpo
          have hab := hpo.1
          have hcx := chgX_eq s xs l k
          have hcb : chgB s xs l k = (decide ((fdOf s l k).verdict = 2) && decide ((s.P k).b < xs.length)) := rfl
          have hlk := brM_look (xs := xs) hlt
          obtain ⟨⟨fi, fv, fb⟩, hfd⟩ : ∃ z, fdOf s l k = z := ⟨_, rfl⟩
          obtain ⟨p, hp⟩ : ∃ z, s.P k = z := ⟨_, rfl⟩
          rw [hfd] at e0 e1 e2 hcb
          rw [hp] at A hab hcx hcb
          obtain ⟨c0, c1, c2, c3⟩ := CB.out _ (HW0k.out.trans X)
          obtain ⟨p0, p1, p2, p3, p4, p5, p6, p7, p8⟩ := A
          have HBR := Lib.hid (block_ext XX2 HB2'.out)
          have i1 : (0 : Int) ≤ (k : Int) := by omega
          have i2 : (k : Int) < (s.pairs.length : Int) := by omega
          have HCX := Lib.hid hcx; have HCB := Lib.hid hcb; have HLK := Lib.hid hlk; have HAB := Lib.hid hab
          obtain ⟨wo, rfl⟩ : ∃ t : World, t = wr := ⟨_, rfl⟩
          clear hpo hcx hcb hlk hfd hp hkf hab XX2
          simp only at e0 e1 e2
          have X8 : Ext wo ((wo.alloc (.cells #[.int .i64 fi, .int .i64 fv, .int .i64 fb] 120)).alloc (.cells #[.int .i64 p.a, .int .i64 p.b, .int .i64 p.want.a, .int .i64 p.want.b, .int .i64 p.want.c, .int .i64 p.want.d, .int .i64 p.want.e, .int .i64 p.want.f, .int .i64 p.bound] 117)) := (by repeat (first | with_reducible exact Ext.refl _ | with_reducible assumption | with_reducible apply Ext.alloc | with_reducible apply Ext.drew | (with_reducible refine Ext.setCell ?_ (by (try simp) <;> omega) _)))
          have b8_0 := block_alloc (block_new wo (.cells #[.int .i64 fi, .int .i64 fv, .int .i64 fb] 120)) (.cells #[.int .i64 p.a, .int .i64 p.b, .int .i64 p.want.a, .int .i64 p.want.b, .int .i64 p.want.c, .int .i64 p.want.d, .int .i64 p.want.e, .int .i64 p.want.f, .int .i64 p.bound] 117)
          have b8_1 := block_at (w := (wo.alloc (.cells #[.int .i64 fi, .int .i64 fv, .int .i64 fb] 120))) (n := wo.heap.size + 1) (by simp) (.cells #[.int .i64 p.a, .int .i64 p.b, .int .i64 p.want.a, .int .i64 p.want.b, .int .i64 p.want.c, .int .i64 p.want.d, .int .i64 p.want.e, .int .i64 p.want.f, .int .i64 p.bound] 117)
          obtain ⟨W8, hW8⟩ : ∃ W, ((wo.alloc (.cells #[.int .i64 fi, .int .i64 fv, .int .i64 fb] 120)).alloc (.cells #[.int .i64 p.a, .int .i64 p.b, .int .i64 p.want.a, .int .i64 p.want.b, .int .i64 p.want.c, .int .i64 p.want.d, .int .i64 p.want.e, .int .i64 p.want.f, .int .i64 p.bound] 117)) = W := ⟨_, rfl⟩
          obtain ⟨B8, hB8⟩ : ∃ B, wo.heap.size = B := ⟨_, rfl⟩
          rw [hW8] at X8 b8_0 b8_1
          rw [hB8] at b8_0 b8_1
          have HZ8 : Hid (wo.heap.size ≤ B8) := Lib.hid (by omega)
          have HW8 := Lib.hid hW8; have HB8 := Lib.hid hB8
          clear hW8 hB8
          have z2 := (Ext.alloc' wo (.cells #[.int .i64 fi, .int .i64 fv, .int .i64 fb] 120))
          have c2' := z2.cell c2
          have p0' := z2.cell p0; have p1' := z2.cell p1; have p2' := z2.cell p2; have p3' := z2.cell p3; have p4' := z2.cell p4; have p5' := z2.cell p5; have p6' := z2.cell p6; have p7' := z2.cell p7; have p8' := z2.cell p8
          go_upto_region 17 with fail
          rw [HW8.out, HB8.out]
          have X9 := X.trans X8
          have f1 := block_cell b8_0 1 (.int .i64 fv) rfl
          have g0 := block_cell b8_1 0 (.int .i64 p.a) rfl; have g1 := block_cell b8_1 1 (.int .i64 p.b) rfl; have g2 := block_cell b8_1 2 (.int .i64 p.want.a) rfl; have g3 := block_cell b8_1 3 (.int .i64 p.want.b) rfl; have g4 := block_cell b8_1 4 (.int .i64 p.want.c) rfl; have g5 := block_cell b8_1 5 (.int .i64 p.want.d) rfl; have g6 := block_cell b8_1 6 (.int .i64 p.want.e) rfl; have g7 := block_cell b8_1 7 (.int .i64 p.want.f) rfl; have g8 := block_cell b8_1 8 (.int .i64 p.bound) rfl
          have q0 := block_cell (block_ext X8 HBR.out) 0 _ rfl
          have own8 := own.ext X8
          have HX8 := Lib.hid X8
          clear HW8 HB8 c0 c1 c2 c3 c2' z2 p0 p1 p2 p3 p4 p5 p6 p7 p8 p0' p1' p2' p3' p4' p5' p6' p7' p8' b8_0 b8_1 e0 e1 e2 own X8 X
          obtain ⟨va, vm, vd, rfl⟩ := own8.shape
          by_cases hv : fv = 2
          case neg =>
            have t1 : (fv == 2) = false := by rw [beq_eq_false_iff_ne]; exact hv
            have hno : chgB s xs l k = false := by rw [HCB.out, decide_eq_false hv]; rfl
            have FIN := Lib.hid (And.intro (show OwnR W8 w7.heap.size 70 3 encCg (.slice va vm vd) (cgK s xs l (k + 1)) by rw [cgK_no hno]; exact own8) X9)
            clear hv hno own8 X9 q0 g0 g1 g2 g3 g4 g5 g6 g7 g8
            go_wp2
            go_roundw
            case rel => exact ⟨k + 1, by omega, by go_num, FIN.out.1, FIN.out.2⟩
            case measure => simp [intOf] <;> omega
          case pos =>
          subst hv
          by_cases hb : p.b < (xs.length : Int)
          case neg =>
            have t1 : decide (p.b < (xs.length : Int)) = false := decide_eq_false hb
            have hno : chgB s xs l k = false := by rw [HCB.out, t1]; simp
            have FIN := Lib.hid (And.intro (show OwnR W8 w7.heap.size 70 3 encCg (.slice va vm vd) (cgK s xs l (k + 1)) by rw [cgK_no hno]; exact own8) X9)
            clear hb hno own8 X9 g0 g2 g3 g4 g5 g6 g7 g8
            go_wp2
            go_roundw
            case rel => exact ⟨k + 1, by omega, by go_num, FIN.out.1, FIN.out.2⟩
            case measure => simp [intOf] <;> omega
          case pos =>
            have t1 : decide (p.b < (xs.length : Int)) = true := decide_eq_true hb
            have hyes : chgB s xs l k = true := by rw [HCB.out, t1]; rfl
            have XB := HXw.out.trans X9
            have CW := Lib.hid (charge_walk B2 (M + 1) b M cnt (brkL s xs).length _ _ xs l _ (brkT s xs k) (k : Int) p (by omega) (by have := HXN.out; omega) HAB.out hb W8 (block_ext HX8.out HBR.out) (block_ext X9 HB9.out) (HM2.out.ext XB) (D2.out.ext X9) HLK.out)
            rw [HCX.out] at CW
            have HS9 := Lib.hid (cgK_yes hyes)
            obtain ⟨c, hc⟩ : ∃ z, chgF s xs l k = z := ⟨_, rfl⟩
            obtain ⟨ds, hds⟩ : ∃ z, cgK s xs l k = z := ⟨_, rfl⟩
            have hdl := cgK_len s xs l k
            rw [hc] at CW HS9
            rw [hds] at own8 HS9 hdl
            have X9' := Lib.hid X9
            clear hb hyes XB hc hds X9
            go_wp2_with fail
            refine CW.out.mono ?_
            rintro e w9 ⟨rfl, x9⟩
            have own9 := own8.ext x9
            have X10 := Lib.hid (X9'.out.trans x9)
            have hsz := X10.out.size
            obtain ⟨c0, c1, c2⟩ := c
            clear own8 g0 g1 g2 g3 g4 g5 g6 g7 g8 f1 q0 x9
            go_wp2_with (first | (at_builtin; go_must (refine wpList_own1 et_cg rfl _ _ rfl own9 rfl (⟨c0, c1, c2⟩ : Chg) rfl rfl rfl (by simp [encCg, Value.oneCell']) (by omega) hsz ?_; intro v' w10 hown' hb' happ _)) | fail)
            have FIN := Lib.hid (And.intro hown' (Below.trans X10.out hb'))
            clear hown' hb' happ own9
            go_roundw
            case rel => exact ⟨k + 1, by omega, by go_num, by rw [HS9.out]; exact FIN.out.1, FIN.out.2⟩
            case measure => simp [intOf] <;> omega
        case neg =>
          obtain rfl : k = s.pairs.length := by omega
          have SF := Lib.hid (own.sl (fun _ _ => rfl) (by have := cgK_len s xs l s.pairs.length; omega))
          obtain ⟨va, vm, vd, rfl⟩ := own.shape
          have HX := Lib.hid (XX.out.trans (HXw.out.trans X))
          clear own X
          go_wp2
          go_ret2
          exact ⟨_, rfl, SF.out, HX.out⟩
end Go.Proofs.YthpfalbeieloaaaGreatDoor

/-
  Walks of blame: Voices.
-/
set_option linter.unusedVariables false
namespace Go.Sx.Bl
open Go.Sx Go.Sx.Sz Go.Sx.Sc Go.Sx.Au Go.Sx.Po Go.RowKit
end Go.Sx.Bl
namespace Go.Proofs.YthpfalbeieloaaaGreatDoor
open Go.RowKit Go.Sx Go.Sx.Sz Go.Sx.Sc Go.Sx.Au Go.Sx.Po Go.Sx.Bl

end Go.Proofs.YthpfalbeieloaaaGreatDoor

/-
  Walks: schismalaw40.has, schismaref40.Same.
-/
set_option linter.unusedVariables false
namespace Go.Proofs.YthpfalbeieloaaaGreatDoor
open Go.RowKit Go.Sx Go.Sx.Sz Go.Sx.Sc Go.Sx.Au Go.Sx.Po Go.Sx.Bl

theorem Sl.cg {w : World} {a? : Option Addr} {n cap : Nat} {xs : List Chg} (h : Sl w 3 encCg (.slice a? n cap) xs) (k : Nat) (hk : k < xs.length) : ∃ b o, a? = some ⟨b, o, none⟩ ∧ w.cell? ⟨b, o + k * 3, none⟩ = some (.int .i64 xs[k].pair) ∧ w.cell? ⟨b, o + k * 3 + 1, none⟩ = some (.int .i64 xs[k].kind) ∧ w.cell? ⟨b, o + k * 3 + 2, none⟩ = some (.int .i64 xs[k].note) := by
  obtain ⟨b, o, e, hc⟩ := h.at (by omega) k hk
  exact ⟨b, o, e, hc 0 (by omega), hc 1 (by omega), hc 2 (by omega)⟩
end Go.Proofs.YthpfalbeieloaaaGreatDoor

/-
  Walks: schismalaw40.rising.
-/
set_option linter.unusedVariables false
namespace Go.Proofs.YthpfalbeieloaaaGreatDoor
open Go.RowKit Go.Sx Go.Sx.Sz Go.Sx.Sc Go.Sx.Au Go.Sx.Po Go.Sx.Bl

end Go.Proofs.YthpfalbeieloaaaGreatDoor

/-
  Walk: schismaref16.Same.
-/
set_option linter.unusedVariables false
namespace Go.Proofs.YthpfalbeieloaaaGreatDoor
open Go.RowKit Go.Sx Go.Sx.Sz Go.Sx.Sc

end Go.Proofs.YthpfalbeieloaaaGreatDoor
