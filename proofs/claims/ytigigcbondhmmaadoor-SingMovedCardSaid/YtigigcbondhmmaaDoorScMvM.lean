/-
  Plain: a score that is moved by ticks and by an interval.
-/
import Derived.Test.YtigigcbondhmmaaDoorLibB
set_option linter.unusedVariables false
namespace Go.Sx.Sc
open Go.Sx.Sz

def mvN (by' : Int) (v : V6) (n : Nt) : Nt := ⟨n.v, n.f + by', n.u + by', n.x.add v 1, n.tied⟩
def mvS (by' : Int) (v : V6) (s : Sc) : Sc := ⟨s.voices, s.notes.map (mvN by' v), s.pairs, s.cads.map (· + by')⟩
/-- The first k exponents moved. -/
def mvX (v x : V6) (k : Nat) : V6 := V6.of fun j => if j < k then x.get j + v.get j else x.get j
theorem mvX_zero (v x : V6) : mvX v x 0 = x := by
  apply V6.ext'; intro k hk; rw [mvX, V6.get_of _ hk, if_neg (by omega)]
theorem mvX_six (v x : V6) : mvX v x 6 = x.add v 1 := by
  apply V6.ext'; intro k hk; rw [mvX, V6.get_of _ hk, if_pos (by omega), V6.add, V6.get_of _ hk]; omega
theorem mvX_get (v x : V6) {k : Nat} (hk : k < 6) : (mvX v x k).get k = x.get k := by
  rw [mvX, V6.get_of _ hk, if_neg (by omega)]
theorem mvX_succ (v x : V6) {k : Nat} (hk : k < 6) : mvX v x (k + 1) = (mvX v x k).put k (x.get k + v.get k) := by
  have h : ∀ j, j < 6 → (mvX v x (k + 1)).get j = if j = k then x.get k + v.get k else (mvX v x k).get j := fun j hj => by
    rw [mvX, V6.get_of _ hj, mvX, V6.get_of _ hj]
    by_cases e : j = k
    · subst e; rw [if_pos (by omega), if_pos rfl]
    · rw [if_neg e]
      by_cases e2 : j < k
      · rw [if_pos (by omega), if_pos e2]
      · rw [if_neg (by omega), if_neg e2]
  apply V6.ext'
  intro j hj
  rw [h j hj]
  rcases (show k = 0 ∨ k = 1 ∨ k = 2 ∨ k = 3 ∨ k = 4 ∨ k = 5 by omega) with rfl | rfl | rfl | rfl | rfl | rfl <;>
    rcases (show j = 0 ∨ j = 1 ∨ j = 2 ∨ j = 3 ∨ j = 4 ∨ j = 5 by omega) with rfl | rfl | rfl | rfl | rfl | rfl <;> rfl
/-- What the limits permit. -/
def okN (by' : Int) (v : V6) (n : Nt) : Prop := 0 ≤ n.f + by' ∧ n.u + by' ≤ 100000 ∧ ∀ k, k < 6 → -24 ≤ n.x.get k + v.get k ∧ n.x.get k + v.get k ≤ 24
def mvOk (by' : Int) (v : V6) (s : Sc) : Prop := (∀ i, i < s.notes.length → okN by' v (s.N i)) ∧ ∀ i, i < s.cads.length → 1 ≤ s.C i + by' ∧ s.C i + by' < 100000

section
variable {s : Sc} {by' : Int} {v : V6}
theorem mv_N {i : Nat} (hi : i < s.notes.length) : (mvS by' v s).N i = mvN by' v (s.N i) := by
  rw [Sc.N_eq (s := mvS by' v s) (by simpa [mvS] using hi), Sc.N_eq hi]; simp [mvS]
theorem mv_C {i : Nat} (hi : i < s.cads.length) : (mvS by' v s).C i = s.C i + by' := by
  rw [Sc.C_eq (s := mvS by' v s) (by simpa [mvS] using hi), Sc.C_eq hi]; simp [mvS]
theorem mv_nl : (mvS by' v s).notes.length = s.notes.length := by simp [mvS]
theorem mv_cl : (mvS by' v s).cads.length = s.cads.length := by simp [mvS]
theorem add_inj {x y : V6} (h : x.add v 1 = y.add v 1) : x = y := by
  apply V6.ext'
  intro k hk
  have := congrArg (fun z => V6.get z k) h
  simp only [V6.add, V6.get_of _ hk] at this
  omega
theorem mv_ok (h : ScOk s) (hk : mvOk by' v s) : ScOk (mvS by' v s) := by
  have hn := fun (i : Nat) (hi : i < s.notes.length) => mv_N (s := s) (by' := by') (v := v) hi
  refine ⟨?_, ⟨fun i hi => ?_, fun i hi => ?_⟩, fun i hi => ⟨fun k hk' hv => ?_, fun ht hno => ?_⟩, ⟨fun i hi => ?_, fun i hi => h.pr.2 i hi⟩, ⟨fun i hi => ?_, fun i hi => ?_⟩⟩
  · have := h.sz; unfold szOk' at *; rw [mv_nl, mv_cl]; exact this
  · rw [mv_nl] at hi
    rw [hn i hi]
    have a := h.nt.note hi
    have b := hk.1 i hi
    unfold noteOk okN at *
    refine ⟨a.1, ⟨b.1, ?_⟩, b.2.1, Sz.within_iff.2 fun k hk' => ?_⟩
    · show (s.N i).f + by' < (s.N i).u + by'; omega
    · show -24 ≤ ((s.N i).x.add v 1).get k ∧ ((s.N i).x.add v 1).get k ≤ 24
      rw [V6.add, V6.get_of _ hk']
      have := b.2.2 k hk'; omega
  · rw [mv_nl] at hi
    rw [hn i (by omega), hn (i + 1) (by omega)]
    have := h.nt.2 i hi
    unfold lexN mvN at *
    dsimp only
    omega
  · rw [mv_nl] at hi
    rw [hn i hi, hn k (by omega)] at *
    have := h.apart hk' hi hv
    show (s.N k).u + by' ≤ (s.N i).f + by'; omega
  · rw [mv_nl] at hi
    rw [hn i hi] at ht
    obtain ⟨k, hk', a, b, c⟩ := h.tie hi ht
    refine hno k hk' ⟨?_, ?_, ?_⟩
    · rw [hn i hi, hn k (by omega)]; exact a
    · rw [hn i hi, hn k (by omega)]; show (s.N k).u + by' = (s.N i).f + by'; omega
    · rw [hn i hi, hn k (by omega)]; show (s.N k).x.add v 1 = (s.N i).x.add v 1; rw [c]
  · have a := h.pr.1 i hi
    show pairOk (mvS by' v s) (s.P i)
    unfold pairOk at *
    rw [mv_nl, hn _ (by omega), hn _ (by omega)]
    refine ⟨a.1, a.2.1, a.2.2.1, a.2.2.2.1, a.2.2.2.2.1, ?_⟩
    have := a.2.2.2.2.2
    show (s.N _).f + by' < (s.N _).u + by'; omega
  · rw [mv_cl] at hi
    rw [mv_C hi]; have := hk.2 i hi; omega
  · rw [mv_cl] at hi
    rw [mv_C (by omega), mv_C (by omega)]; have := h.cd.2 i hi; omega

theorem findL_map {p q : Nt → Bool} {g : Nt → Nt} (h : ∀ n, q (g n) = p n) : ∀ (l : List Nt) (k : Nat), findL (l.map g) q k = findL l p k
  | [], _ => rfl
  | n :: l, k => by simp only [List.map_cons, findL, h n, findL_map h l (k + 1)]
theorem chooseL_map {p q : Nt → Bool} {g : Nt → Nt} (h : ∀ n, q (g n) = p n) (l : List Nt) : chooseL (l.map g) q = chooseL l p := by
  unfold chooseL
  rw [List.length_map]
  congr 1
  apply List.filter_congr
  intro i hi
  rw [List.mem_range] at hi
  rw [List.getD_eq_getElem?_getD, List.getElem?_map, List.getD_eq_getElem?_getD, List.getElem?_eq_getElem hi]
  exact h _
theorem mv_sec (t : Int) : secF (mvS by' v s) (t + by') = secF s t := by
  unfold secF mvS
  rw [List.countP_map]
  apply List.countP_congr
  intro c _
  simp
theorem mv_beg (t : Int) : begF (mvS by' v s) (t + by') = begF s t := by
  unfold begF mvS
  rw [List.countP_map]
  apply List.countP_congr
  intro c _
  simp [mvN]
theorem mv_bef (h : scB s = true) (h' : scB (mvS by' v s) = true) (n : Int) : befR (mvS by' v s) n = befR s n := by
  unfold befR
  rw [h, h', mv_nl]
  by_cases hn : (0 ≤ n ∧ n < s.notes.length)
  · have c : (true = true ∧ 0 ≤ n ∧ n < (s.notes.length : Int)) := ⟨rfl, hn⟩
    rw [if_pos c, if_pos c, mv_N (by omega)]
    show ((if (s.N n.toNat).tied = true then findL (s.notes.map (mvN by' v)) (endP (s.N n.toNat).v ((s.N n.toNat).f + by')) 0 else -1), (0 : Int)) = _
    rw [findL_map (p := endP (s.N n.toNat).v (s.N n.toNat).f) (fun m => by unfold endP mvN; dsimp only; rw [decide_eq_decide.2 (show m.u + by' = (s.N n.toNat).f + by' ↔ m.u = (s.N n.toNat).f by omega)])]
  · rw [if_neg (fun h => hn h.2), if_neg (fun h => hn h.2)]
theorem mv_fst (h : scB s = true) (h' : scB (mvS by' v s) = true) (k : Int) : fstR (mvS by' v s) k = fstR s k := by
  unfold fstR
  rw [h, h', mv_cl]
  by_cases hn : (0 ≤ k ∧ k ≤ s.cads.length + 1)
  · rw [if_pos ⟨rfl, hn⟩, if_pos ⟨rfl, hn⟩]
    unfold fstF
    rw [mv_cl, mv_nl]
    by_cases h0 : k = 0
    · rw [if_pos h0, if_pos h0]
    · rw [if_neg h0, if_neg h0]
      by_cases h1 : k = s.cads.length + 1
      · rw [if_pos h1, if_pos h1]
      · rw [if_neg h1, if_neg h1, mv_C (by omega), mv_beg]
  · rw [if_neg (fun h => hn h.2), if_neg (fun h => hn h.2)]
theorem mv_held (h : scB s = true) (h' : scB (mvS by' v s) = true) (k : Int) : heldR (mvS by' v s) k = heldR s k := by
  unfold heldR
  rw [h, h', mv_cl]
  by_cases hn : (1 ≤ k ∧ k ≤ s.cads.length)
  · rw [if_pos ⟨rfl, hn⟩, if_pos ⟨rfl, hn⟩, mv_C (by omega)]
    show (chooseL (s.notes.map (mvN by' v)) _, (0 : Int)) = _
    rw [chooseL_map (p := heldP (s.C (k - 1).toNat)) (fun m => by simp [heldP, mvN])]
  · rw [if_neg (fun h => hn h.2), if_neg (fun h => hn h.2)]
theorem mv_secR (h : scB s = true) (h' : scB (mvS by' v s) = true) {t : Int} (h1 : 0 ≤ t ∧ t ≤ 100000) (h2 : 0 ≤ t + by' ∧ t + by' ≤ 100000) : secR (mvS by' v s) (t + by') = secR s t := by
  unfold secR
  rw [h, h', if_pos ⟨rfl, h2⟩, if_pos ⟨rfl, h1⟩, mv_sec]
theorem mv_sndR (h : scB s = true) (h' : scB (mvS by' v s) = true) {t : Int} (h1 : 0 ≤ t ∧ t ≤ 100000) (h2 : 0 ≤ t + by' ∧ t + by' ≤ 100000) : sndR (mvS by' v s) (t + by') = sndR s t := by
  unfold sndR
  rw [h, h', if_pos ⟨rfl, h2⟩, if_pos ⟨rfl, h1⟩]
  show (chooseL (s.notes.map (mvN by' v)) _, (0 : Int)) = _
  rw [chooseL_map (p := sndP t) (fun m => by simp [sndP, mvN])]
end
end Go.Sx.Sc
