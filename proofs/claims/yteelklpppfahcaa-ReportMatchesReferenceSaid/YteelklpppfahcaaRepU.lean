/-
  Plain: where a path leads, what a proof of growth shows, and that two of them with one root are the same or collide (no program in sight).
-/
import Derived.Test.YteelklpppfahcaaRepR
set_option linter.unusedVariables false
namespace Go.Sx.Rep

def lst (l : List Int) : Int := l.getD (l.length - 1) 0
def ini (l : List Int) : List Int := l.take (l.length - 1)
theorem ini_lst {l : List Int} (h : l.length ≠ 0) : l = ini l ++ [lst l] := by
  unfold ini lst
  have h2 : l.length - 1 < l.length := by omega
  rw [List.getD_eq_getElem?_getD, List.getElem?_eq_getElem h2, Option.getD_some, ← List.take_succ_eq_append_getElem h2]
  rw [List.take_of_length_le (by omega)]
theorem ini_len (l : List Int) : (ini l).length = l.length - 1 := by unfold ini; simp

def leadsF : Nat → Int → Nat → Nat → List Int → Int × List (Int × Int) × Bool
  | 0, leaf, _, _, ps => (leaf, [], decide (ps.length = 0))
  | f + 1, leaf, i, n, ps => if n = 1 then (leaf, [], decide (ps.length = 0)) else if ps.length = 0 then (0, [], false) else
    if i < split n then
      if (leadsF f leaf i (split n) (ini ps)).2.2 then (node (leadsF f leaf i (split n) (ini ps)).1 (lst ps), (leadsF f leaf i (split n) (ini ps)).2.1 ++ [((leadsF f leaf i (split n) (ini ps)).1, lst ps)], true) else (0, [], false)
    else
      if (leadsF f leaf (i - split n) (n - split n) (ini ps)).2.2 then (node (lst ps) (leadsF f leaf (i - split n) (n - split n) (ini ps)).1, (leadsF f leaf (i - split n) (n - split n) (ini ps)).2.1 ++ [(lst ps, (leadsF f leaf (i - split n) (n - split n) (ini ps)).1)], true) else (0, [], false)

theorem foldF_snoc (q : Nat × Nat × Nat → Bool) (d : Int) (c : Nat × Nat × Nat) (L : List (Nat × Nat × Nat)) (ps : List Int) (z : Int) (h : ps.length = L.length) :
    foldF q d (c :: L) (ps ++ [z]) = if q c then node (foldF q d L ps) z else node z (foldF q d L ps) := by
  unfold foldF
  rw [List.reverse_cons, List.zip_append (by simp [h]), List.foldl_append]
  rfl
theorem oldF_snoc (m : Nat) (d : Int) (c : Nat × Nat × Nat) (L : List (Nat × Nat × Nat)) (ps : List Int) (z : Int) (h : ps.length = L.length) :
    oldF m d (c :: L) (ps ++ [z]) = if c.2.1 < m then node z (oldF m d L ps) else oldF m d L ps := by
  unfold oldF
  rw [List.reverse_cons, List.zip_append (by simp [h]), List.foldl_append]
  rfl

theorem leadsF_cuts (leaf : Int) (I : Nat) : ∀ f lo hi ps, lo ≤ I → I < hi → hi - lo ≤ f →
    (leadsF f leaf (I - lo) (hi - lo) ps).2.2 = decide (ps.length = (cutsF onep I f lo hi).1.length) ∧
    (ps.length = (cutsF onep I f lo hi).1.length → (leadsF f leaf (I - lo) (hi - lo) ps).1 = foldF (fun c => decide (I < c.2.1)) leaf (cutsF onep I f lo hi).1 ps)
  | 0, lo, hi, ps, h1, h2, h3 => by omega
  | f + 1, lo, hi, ps, h1, h2, h3 => by
    unfold leadsF cutsF
    by_cases hp : onep lo hi = true
    · rw [if_pos hp]
      simp only [onep, decide_eq_true_eq] at hp
      rw [if_pos hp]
      exact ⟨rfl, fun _ => by simp [foldF]⟩
    · rw [if_neg hp]
      have h5 := onep_ok I lo hi h1 h2 (by simpa using hp)
      rw [if_neg (by omega)]
      have h6 := split_lt (n := hi - lo) (by omega)
      have h7 := split_pos (hi - lo)
      simp only []
      by_cases h0 : ps.length = 0
      · rw [if_pos h0]
        simp only [List.length_cons]
        exact ⟨by rw [decide_eq_false (by omega)], fun h => by omega⟩
      · rw [if_neg h0]
        have hps := ini_lst h0
        have hil := ini_len ps
        by_cases hm : I < lo + split (hi - lo)
        · simp only [if_pos (show I - lo < split (hi - lo) by omega), if_pos hm]
          obtain ⟨e1, e2⟩ := leadsF_cuts leaf I f lo (lo + split (hi - lo)) (ini ps) h1 hm (by omega)
          rw [show lo + split (hi - lo) - lo = split (hi - lo) by omega] at e1 e2
          by_cases hk : (ini ps).length = (cutsF onep I f lo (lo + split (hi - lo))).1.length
          · rw [e1, if_pos (decide_eq_true hk), e2 hk]
            refine ⟨by simp only [List.length_cons]; rw [decide_eq_true (by omega)], fun _ => ?_⟩
            conv => rhs; rw [hps]
            rw [foldF_snoc _ _ _ _ _ _ hk]
            simp [hm]
          · rw [e1, if_neg (by simp [hk])]
            simp only [List.length_cons]
            exact ⟨by rw [decide_eq_false (by omega)], fun h => by omega⟩
        · simp only [if_neg (show ¬ I - lo < split (hi - lo) by omega), if_neg hm]
          obtain ⟨e1, e2⟩ := leadsF_cuts leaf I f (lo + split (hi - lo)) hi (ini ps) (by omega) h2 (by omega)
          rw [show I - (lo + split (hi - lo)) = I - lo - split (hi - lo) by omega, show hi - (lo + split (hi - lo)) = hi - lo - split (hi - lo) by omega] at e1 e2
          by_cases hk : (ini ps).length = (cutsF onep I f (lo + split (hi - lo)) hi).1.length
          · rw [e1, if_pos (decide_eq_true hk), e2 hk]
            refine ⟨by simp only [List.length_cons]; rw [decide_eq_true (by omega)], fun _ => ?_⟩
            conv => rhs; rw [hps]
            rw [foldF_snoc _ _ _ _ _ _ hk]
            simp [hm]
          · rw [e1, if_neg (by simp [hk])]
            simp only [List.length_cons]
            exact ⟨by rw [decide_eq_false (by omega)], fun h => by omega⟩

theorem check_leads (rt leaf : Int) (i n : Nat) (ps : List Int) (hi : i < n) (hn : n ≤ 1024) : checkF rt leaf i n ps = ((leadsF n leaf i n ps).2.2 && (leadsF n leaf i n ps).1 == rt) := by
  obtain ⟨e1, e2⟩ := leadsF_cuts leaf i n 0 n ps (Nat.zero_le _) hi (by omega)
  simp only [Nat.sub_zero] at e1 e2
  unfold checkF
  rw [if_neg (by omega), e1]
  simp only [Int.toNat_natCast]
  unfold cutsAll
  by_cases hk : ps.length = (cutsF onep i n 0 n).1.length
  · rw [e2 hk, decide_eq_true hk, beq_iff_eq.2 hk]
  · rw [decide_eq_false hk, beq_eq_false_iff_ne.2 hk]; rfl

def collideF (a b : List (Int × Int)) : Bool := (a.zip b).any fun x => x.1 != x.2 && node x.1.1 x.1.2 == node x.2.1 x.2.2
theorem collideF_snoc {a b : List (Int × Int)} (h : a.length = b.length) (x y : Int × Int) : collideF (a ++ [x]) (b ++ [y]) = (collideF a b || (x != y && node x.1 x.2 == node y.1 y.2)) := by
  unfold collideF
  rw [List.zip_append h, List.any_append]
  simp

theorem leads_bind : ∀ f leaf leaf' i n ps ps', (leadsF f leaf i n ps).2.2 = true → (leadsF f leaf' i n ps').2.2 = true →
    (leadsF f leaf i n ps).2.1.length = (leadsF f leaf' i n ps').2.1.length ∧
    ((leadsF f leaf i n ps).1 = (leadsF f leaf' i n ps').1 → (leaf = leaf' ∧ ps = ps') ∨ collideF (leadsF f leaf i n ps).2.1 (leadsF f leaf' i n ps').2.1 = true)
  | 0, leaf, leaf', i, n, ps, ps', h1, h2 => by
    unfold leadsF at *
    simp only [decide_eq_true_eq] at h1 h2
    refine ⟨rfl, fun h => .inl ⟨h, ?_⟩⟩
    rw [List.length_eq_zero_iff.1 h1, List.length_eq_zero_iff.1 h2]
  | f + 1, leaf, leaf', i, n, ps, ps', h1, h2 => by
    unfold leadsF at *
    by_cases hn : n = 1
    · simp only [if_pos hn, decide_eq_true_eq] at *
      refine ⟨trivial, fun h => .inl ⟨h, ?_⟩⟩
      rw [List.length_eq_zero_iff.1 h1, List.length_eq_zero_iff.1 h2]
    · simp only [if_neg hn] at *
      by_cases h0 : ps.length = 0
      · rw [if_pos h0] at h1; cases h1
      by_cases h0' : ps'.length = 0
      · rw [if_pos h0'] at h2; cases h2
      simp only [if_neg h0, if_neg h0'] at *
      by_cases hm : i < split n
      · simp only [if_pos hm] at *
        by_cases k1 : (leadsF f leaf i (split n) (ini ps)).2.2 = true
        · by_cases k2 : (leadsF f leaf' i (split n) (ini ps')).2.2 = true
          · simp only [if_pos k1, if_pos k2] at *
            obtain ⟨e1, e2⟩ := leads_bind f leaf leaf' i (split n) (ini ps) (ini ps') k1 k2
            refine ⟨by simp [e1], fun h => ?_⟩
            rw [collideF_snoc e1]
            by_cases hp : ((leadsF f leaf i (split n) (ini ps)).1, lst ps) = ((leadsF f leaf' i (split n) (ini ps')).1, lst ps')
            · obtain ⟨p1, p2⟩ := Prod.mk.inj hp
              rcases e2 p1 with ⟨q1, q2⟩ | q
              · exact .inl ⟨q1, by rw [ini_lst h0, ini_lst h0', q2, p2]⟩
              · exact .inr (by rw [q]; rfl)
            · right
              rw [bne_iff_ne.2 hp, beq_iff_eq.2 h]
              simp
          · simp only [if_neg k2] at h2; cases h2
        · simp only [if_neg k1] at h1; cases h1
      · simp only [if_neg hm] at *
        by_cases k1 : (leadsF f leaf (i - split n) (n - split n) (ini ps)).2.2 = true
        · by_cases k2 : (leadsF f leaf' (i - split n) (n - split n) (ini ps')).2.2 = true
          · simp only [if_pos k1, if_pos k2] at *
            obtain ⟨e1, e2⟩ := leads_bind f leaf leaf' (i - split n) (n - split n) (ini ps) (ini ps') k1 k2
            refine ⟨by simp [e1], fun h => ?_⟩
            rw [collideF_snoc e1]
            by_cases hp : (lst ps, (leadsF f leaf (i - split n) (n - split n) (ini ps)).1) = (lst ps', (leadsF f leaf' (i - split n) (n - split n) (ini ps')).1)
            · obtain ⟨p2, p1⟩ := Prod.mk.inj hp
              rcases e2 p1 with ⟨q1, q2⟩ | q
              · exact .inl ⟨q1, by rw [ini_lst h0, ini_lst h0', q2, p2]⟩
              · exact .inr (by rw [q]; rfl)
            · right
              rw [bne_iff_ne.2 hp, beq_iff_eq.2 h]
              simp
          · simp only [if_neg k2] at h2; cases h2
        · simp only [if_neg k1] at h1; cases h1

/-! ### Growth -/
structure Shown where
  old : Int
  new : Int
  pairs : List (Int × Int)
  ok : Bool
def shown0 : Shown := ⟨0, 0, [], false⟩
def showsF : Nat → Int → Nat → Nat → Bool → List Int → Shown
  | 0, _, _, _, _, _ => shown0
  | f + 1, old, m, n, wh, ps => if m = n then (if wh then ⟨old, old, [], decide (ps.length = 0)⟩ else if ps.length ≠ 1 then shown0 else ⟨ps.headD 0, ps.headD 0, [], true⟩) else if ps.length = 0 then shown0 else
    if m ≤ split n then
      if (showsF f old m (split n) wh (ini ps)).ok then ⟨(showsF f old m (split n) wh (ini ps)).old, node (showsF f old m (split n) wh (ini ps)).new (lst ps), (showsF f old m (split n) wh (ini ps)).pairs ++ [((showsF f old m (split n) wh (ini ps)).new, lst ps)], true⟩ else shown0
    else
      if (showsF f old (m - split n) (n - split n) false (ini ps)).ok then ⟨node (lst ps) (showsF f old (m - split n) (n - split n) false (ini ps)).old, node (lst ps) (showsF f old (m - split n) (n - split n) false (ini ps)).new, (showsF f old (m - split n) (n - split n) false (ini ps)).pairs ++ [(lst ps, (showsF f old (m - split n) (n - split n) false (ini ps)).new)], true⟩ else shown0

/-- What stands first, and what stands behind it, where the last tree begins behind the first leaf. -/
def fst' (b : Bool) (old : Int) (ps : List Int) : Int := if b then ps.headD 0 else old
def rst' (b : Bool) (ps : List Int) : List Int := if b then ps.tail else ps

theorem rst_snoc (b : Bool) (r : List Int) (z : Int) (h : b = true → r.length ≠ 0) : rst' b (r ++ [z]) = rst' b r ++ [z] := by
  unfold rst'
  cases b with
  | false => rfl
  | true => cases r with
    | nil => simp at h
    | cons x r => rfl
theorem fst_snoc (b : Bool) (old : Int) (r : List Int) (z : Int) (h : b = true → r.length ≠ 0) : fst' b old (r ++ [z]) = fst' b old r := by
  unfold fst'
  cases b with
  | false => rfl
  | true => cases r with
    | nil => simp at h
    | cons x r => rfl
theorem rst_len (b : Bool) (r : List Int) : (rst' b r).length = r.length - (if b then 1 else 0) := by
  unfold rst'; cases b <;> simp

theorem showsF_cuts (old : Int) (M : Nat) (hM : 1 ≤ M) : ∀ f lo hi ps, lo < M → M ≤ hi → hi - lo ≤ f →
    let r := cutsF (endp M) (M - 1) f lo hi
    let b := decide (0 < r.2.1)
    let s := showsF f old (M - lo) (hi - lo) (decide (lo = 0)) ps
    s.ok = decide ((b = true → ps.length ≠ 0) ∧ (rst' b ps).length = r.1.length) ∧
    (s.ok = true → s.old = oldF M (fst' b old ps) r.1 (rst' b ps) ∧ s.new = foldF (fun c => decide (M ≤ c.2.1)) (fst' b old ps) r.1 (rst' b ps))
  | 0, lo, hi, ps, h1, h2, h3 => by omega
  | f + 1, lo, hi, ps, h1, h2, h3 => by
    unfold showsF cutsF
    by_cases hp : endp M lo hi = true
    · rw [if_pos hp]
      simp only [endp, decide_eq_true_eq] at hp
      subst hp
      rw [if_pos rfl]
      by_cases h : lo = 0
      · subst h
        simp [rst', fst', oldF, foldF]
      · have hl : 0 < lo := by omega
        simp only [h, hl, decide_false, decide_true, Bool.false_eq_true, if_false, rst', fst', if_true]
        by_cases h1 : ps.length = 1
        · obtain ⟨x, rfl⟩ := List.length_eq_one_iff.1 h1
          simp [oldF, foldF]
        · rw [if_pos h1]
          refine ⟨?_, fun h => by cases h⟩
          show false = _
          rw [decide_eq_false]
          simp; intro hne hlt
          have : ps.length ≠ 0 := by simpa using hne
          omega
    · rw [if_neg hp]
      have h5 : M < hi := by simp only [endp, decide_eq_true_eq] at hp; omega
      rw [if_neg (by omega)]
      have h6 := split_lt (n := hi - lo) (by omega)
      have h7 := split_pos (hi - lo)
      simp only []
      by_cases h0 : ps.length = 0
      · rw [if_pos h0]
        refine ⟨?_, fun h => by cases h⟩
        show false = _
        rw [decide_eq_false]
        rintro ⟨-, h⟩
        rw [rst_len, h0] at h
        simp at h
      · rw [if_neg h0]
        have hps := ini_lst h0
        have hil := ini_len ps
        have key : ∀ (r : List (Nat × Nat × Nat) × Nat × Nat) (b : Bool) (c : Nat × Nat × Nat) (s : Shown) (wh : Shown),
            (s.ok = decide ((b = true → (ini ps).length ≠ 0) ∧ (rst' b (ini ps)).length = r.1.length) ∧
            (s.ok = true → s.old = oldF M (fst' b old (ini ps)) r.1 (rst' b (ini ps)) ∧ s.new = foldF (fun c => decide (M ≤ c.2.1)) (fst' b old (ini ps)) r.1 (rst' b (ini ps)))) →
            (wh = if s.ok then ⟨if c.2.1 < M then node (lst ps) s.old else s.old, if M ≤ c.2.1 then node s.new (lst ps) else node (lst ps) s.new, wh.pairs, true⟩ else shown0) →
            wh.ok = decide ((b = true → ps.length ≠ 0) ∧ (rst' b ps).length = (c :: r.1).length) ∧
            (wh.ok = true → wh.old = oldF M (fst' b old ps) (c :: r.1) (rst' b ps) ∧ wh.new = foldF (fun c => decide (M ≤ c.2.1)) (fst' b old ps) (c :: r.1) (rst' b ps)) := by
          intro r b c s wh ⟨e1, e2⟩ hw
          by_cases hok : s.ok = true
          · rw [if_pos hok] at hw
            rw [hok] at e1
            obtain ⟨c1, c2⟩ := of_decide_eq_true e1.symm
            obtain ⟨o1, o2⟩ := e2 hok
            have hr : rst' b ps = rst' b (ini ps) ++ [lst ps] := by conv => lhs; rw [hps]
                                                                    exact rst_snoc b _ _ c1
            have hf : fst' b old ps = fst' b old (ini ps) := by conv => lhs; rw [hps]
                                                                exact fst_snoc b old _ _ c1
            rw [hr, hf, oldF_snoc _ _ _ _ _ _ c2, foldF_snoc _ _ _ _ _ _ c2, hw]
            refine ⟨?_, fun _ => ⟨by rw [o1], by rw [o2]; simp only [decide_eq_true_eq]⟩⟩
            rw [decide_eq_true]
            exact ⟨fun _ => h0, by simp [c2]⟩
          · rw [if_neg hok] at hw
            rw [hw]
            refine ⟨?_, fun h => by cases h⟩
            show false = _
            rw [decide_eq_false]
            rintro ⟨-, hx⟩
            apply hok
            rw [e1, decide_eq_true]
            rw [rst_len] at hx ⊢
            simp only [List.length_cons] at hx
            refine ⟨fun hb => ?_, by omega⟩
            subst hb
            simp at hx
            omega
        by_cases hm : M - 1 < lo + split (hi - lo)
        · simp only [if_pos (show M - lo ≤ split (hi - lo) by omega), if_pos hm]
          have ih := showsF_cuts old M hM f lo (lo + split (hi - lo)) (ini ps) h1 (by omega) (by omega)
          simp only [show lo + split (hi - lo) - lo = split (hi - lo) by omega] at ih
          refine key _ _ _ _ _ ih ?_
          split
          · simp only []
            rw [if_neg (by omega), if_pos (by omega)]
          · rfl
        · simp only [if_neg (show ¬ M - lo ≤ split (hi - lo) by omega), if_neg hm]
          have ih := showsF_cuts old M hM f (lo + split (hi - lo)) hi (ini ps) (by omega) h2 (by omega)
          simp only [show M - (lo + split (hi - lo)) = M - lo - split (hi - lo) by omega, show hi - (lo + split (hi - lo)) = hi - lo - split (hi - lo) by omega, show decide (lo + split (hi - lo) = 0) = false from decide_eq_false (by omega)] at ih
          refine key _ _ _ _ _ ih ?_
          split
          · simp only []
            rw [if_pos (by omega), if_neg (by omega)]
          · rfl

theorem follows_aux (old rt : Int) (m : Nat) (ps : List Int) (r : List (Nat × Nat × Nat) × Nat × Nat) (s : Shown)
    (e1 : s.ok = decide ((decide (0 < r.2.1) = true → ps.length ≠ 0) ∧ (rst' (decide (0 < r.2.1)) ps).length = r.1.length))
    (e2 : s.ok = true → s.old = oldF m (fst' (decide (0 < r.2.1)) old ps) r.1 (rst' (decide (0 < r.2.1)) ps) ∧ s.new = foldF (fun c => decide (m ≤ c.2.1)) (fst' (decide (0 < r.2.1)) old ps) r.1 (rst' (decide (0 < r.2.1)) ps)) :
    (if 0 < r.2.1 ∧ ps.length = 0 then false else
      if (if 0 < r.2.1 then ps.tail else ps).length ≠ r.1.length then false else
      (oldF m (if 0 < r.2.1 then ps.headD 0 else old) r.1 (if 0 < r.2.1 then ps.tail else ps) == old) && (foldF (fun c => decide (m ≤ c.2.1)) (if 0 < r.2.1 then ps.headD 0 else old) r.1 (if 0 < r.2.1 then ps.tail else ps) == rt)) = (s.ok && s.old == old && s.new == rt) := by
  by_cases hok : s.ok = true
  · obtain ⟨o1, o2⟩ := e2 hok
    rw [hok] at e1
    obtain ⟨c1, c2⟩ := of_decide_eq_true e1.symm
    rw [hok, o1, o2]
    by_cases hb : 0 < r.2.1
    · simp only [hb, decide_true, rst', fst', if_true, forall_const] at c1 c2 ⊢
      rw [if_neg (fun h => c1 h.2), if_neg (fun h => h c2)]
      simp
    · simp only [hb, decide_false, rst', fst', Bool.false_eq_true, if_false] at c1 c2 ⊢
      rw [if_neg (fun h => h.1), if_neg (fun h => h c2)]
      simp
  · have hf : s.ok = false := by simpa using hok
    rw [hf] at e1 ⊢
    have hn := of_decide_eq_false e1.symm
    by_cases hb : 0 < r.2.1
    · simp only [hb, decide_true, rst', if_true, forall_const, true_and] at hn ⊢
      by_cases h0 : ps.length = 0
      · rw [if_pos h0]; rfl
      · rw [if_neg h0, if_pos (fun h => hn ⟨h0, h⟩)]; rfl
    · simp only [hb, decide_false, rst', Bool.false_eq_true, if_false, false_and, false_implies, true_and] at hn ⊢
      rw [if_pos hn]; rfl


theorem follows_shows (old rt : Int) (m n : Nat) (ps : List Int) (h1 : 1 ≤ m) (h2 : m ≤ n) (hn : n ≤ 1024) :
    followsF old rt m n ps = ((showsF n old m n true ps).ok && (showsF n old m n true ps).old == old && (showsF n old m n true ps).new == rt) := by
  have h := showsF_cuts old m h1 n 0 n ps h1 h2 (by omega)
  simp only [Nat.sub_zero, decide_true] at h
  obtain ⟨e1, e2⟩ := h
  unfold followsF
  rw [if_neg (by omega)]
  exact follows_aux old rt m ps _ _ e1 e2

theorem shows_bind : ∀ f old old' m n wh ps ps', (showsF f old m n wh ps).ok = true → (showsF f old' m n wh ps').ok = true →
    (showsF f old m n wh ps).pairs.length = (showsF f old' m n wh ps').pairs.length ∧
    ((showsF f old m n wh ps).new = (showsF f old' m n wh ps').new → (showsF f old m n wh ps).old = (showsF f old' m n wh ps').old ∨ collideF (showsF f old m n wh ps).pairs (showsF f old' m n wh ps').pairs = true)
  | 0, old, old', m, n, wh, ps, ps', h1, h2 => by cases h1
  | f + 1, old, old', m, n, wh, ps, ps', h1, h2 => by
    unfold showsF at *
    by_cases hn : m = n
    · simp only [if_pos hn] at *
      cases wh with
      | true => exact ⟨rfl, fun h => .inl h⟩
      | false =>
        simp only [Bool.false_eq_true, if_false] at *
        by_cases k1 : ps.length ≠ 1
        · rw [if_pos k1] at h1; cases h1
        by_cases k2 : ps'.length ≠ 1
        · rw [if_pos k2] at h2; cases h2
        simp only [if_neg k1, if_neg k2] at *
        exact ⟨trivial, fun h => .inl h⟩
    · simp only [if_neg hn] at *
      by_cases h0 : ps.length = 0
      · rw [if_pos h0] at h1; cases h1
      by_cases h0' : ps'.length = 0
      · rw [if_pos h0'] at h2; cases h2
      simp only [if_neg h0, if_neg h0'] at *
      by_cases hm : m ≤ split n
      · simp only [if_pos hm] at *
        by_cases k1 : (showsF f old m (split n) wh (ini ps)).ok = true
        · by_cases k2 : (showsF f old' m (split n) wh (ini ps')).ok = true
          · simp only [if_pos k1, if_pos k2] at *
            obtain ⟨e1, e2⟩ := shows_bind f old old' m (split n) wh (ini ps) (ini ps') k1 k2
            refine ⟨by simp [e1], fun h => ?_⟩
            rw [collideF_snoc e1]
            by_cases hp : ((showsF f old m (split n) wh (ini ps)).new, lst ps) = ((showsF f old' m (split n) wh (ini ps')).new, lst ps')
            · obtain ⟨p1, p2⟩ := Prod.mk.inj hp
              rcases e2 p1 with q1 | q
              · exact .inl q1
              · exact .inr (by rw [q]; rfl)
            · right
              rw [bne_iff_ne.2 hp, beq_iff_eq.2 h]
              simp
          · simp only [if_neg k2] at h2; cases h2
        · simp only [if_neg k1] at h1; cases h1
      · simp only [if_neg hm] at *
        by_cases k1 : (showsF f old (m - split n) (n - split n) false (ini ps)).ok = true
        · by_cases k2 : (showsF f old' (m - split n) (n - split n) false (ini ps')).ok = true
          · simp only [if_pos k1, if_pos k2] at *
            obtain ⟨e1, e2⟩ := shows_bind f old old' (m - split n) (n - split n) false (ini ps) (ini ps') k1 k2
            refine ⟨by simp [e1], fun h => ?_⟩
            rw [collideF_snoc e1]
            by_cases hp : (lst ps, (showsF f old (m - split n) (n - split n) false (ini ps)).new) = (lst ps', (showsF f old' (m - split n) (n - split n) false (ini ps')).new)
            · obtain ⟨p2, p1⟩ := Prod.mk.inj hp
              rcases e2 p1 with q1 | q
              · exact .inl (by rw [q1, p2])
              · exact .inr (by rw [q]; rfl)
            · right
              rw [bne_iff_ne.2 hp, beq_iff_eq.2 h]
              simp
          · simp only [if_neg k2] at h2; cases h2
        · simp only [if_neg k1] at h1; cases h1
end Go.Sx.Rep
