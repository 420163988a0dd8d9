/-
  Walks of chain: slices.SortFunc over a row of edges.
-/
import Derived.Test.YtgfaiihekibcbaaGreatDoorGpS
import Derived.Test.YtgfaiihekibcbaaGreatDoorGpL
set_option maxRecDepth 100000
set_option linter.unusedVariables false
namespace Go.Sx
open Go.RowKit Go.Sort
theorem sort_ks {α : Type} [Inhabited α] (enc : α → List Value) (k : Nat) (w : World) (g n : Nat) (d : Array α) (os : Array Obj) : Ks [g] w (Go.Proofs.sortWorldK enc k w g 0 n d os) := by
  refine ⟨rfl, rfl, rfl, ?_, fun b hb hg => ?_⟩
  · unfold Go.Proofs.sortWorldK putRowK
    rw [size_grow, size_putRow]
    exact Nat.le_add_right _ _
  · unfold Go.Proofs.sortWorldK putRowK
    rw [heap_grow_old _ _ (by rw [size_putRow]; exact hb)]
    show (w.heap.modify g _)[b]? = _
    rw [Array.getElem?_modify, if_neg (fun e => hg (by simp [e]))]
theorem sort_heap {α : Type} [Inhabited α] (enc : α → List Value) (k : Nat) (w : World) (g n : Nat) (d : Array α) (os : Array Obj) {cur : Array Value} {e : TypeId} (h : w.heap[g]? = some (.cells cur e (0, 0))) :
    (Go.Proofs.sortWorldK enc k w g 0 n d os).heap[g]? = some (.cells (putCells id 0 (flatK enc k d) cur) e (0, 0)) := by
  unfold Go.Proofs.sortWorldK putRowK
  rw [heap_grow_old _ _ (by rw [size_putRow]; exact (Array.getElem?_eq_some_iff.1 h).1)]
  show (w.heap.modify g _)[g]? = _
  rw [Array.getElem?_modify, if_pos rfl, h]
  rfl
theorem flat_get {α : Type} [Inhabited α] (enc : α → List Value) (k : Nat) (hk : 0 < k) (l : List α) (hl : ∀ x ∈ l, (enc x).length = k) (t : Nat) (ht : t < l.length * k) : (l.flatMap enc)[t]? = some (flatK enc k l.toArray)[t]! := by
  have hq : t / k < l.length := (Nat.div_lt_iff_lt_mul hk).2 ht
  have hr : t % k < k := Nat.mod_lt _ hk
  have h1 := flatMap_get hl (t / k) (t % k) hq hr
  have h2 : t / k * k + t % k = t := by rw [Nat.mul_comm]; exact Nat.div_add_mod t k
  rw [h2] at h1
  rw [h1, get_flatK enc k l.toArray t (by simpa using ht)]
  congr 1
  have h3 : l.toArray[t / k]! = l[t / k] := by simp [hq]
  rw [h3, List.getD_eq_getElem?_getD]
  have hlen := hl _ (List.getElem_mem hq)
  rw [List.getElem?_eq_getElem (by omega), Option.getD_some, getElem!_pos (enc l[t / k]) (t % k) (by omega)]
end Go.Sx
namespace Go.Proofs.YtgfaiihekibcbaaGreatDoor
open Go.RowKit Go.Sx Go.Sx.Sz Go.Sx.Sc Go.Sx.Po Go.Sx.Ch Go.Shelf Go.Sort

theorem isnan0_walk (x : Int) (w : World) : Calls Tryz.prog 70 #[.int .i64 x] w fun e w' => e = .returned (.bool false) ∧ w = w' := by
  go_enter Tryz.func70, Tryz.ntmps70
  go_wp2
  go_ret
  exact ⟨by first | rfl | simp, rfl⟩
theorem compare0_walk (x y : Int) (w : World) : Calls Tryz.prog 38 #[.int .i64 x, .int .i64 y] w fun e w' => e = .returned (.int .i64 (cmpZ x y)) ∧ w = w' := by
  rcases Int.lt_trichotomy x y with h | h | h
  · have hc : cmpZ x y = -1 := if_pos h
    rw [hc]
    clear hc
    go_enter Tryz.func38, Tryz.ntmps38
    go_wp2_with fail
    refine (isnan0_walk x _).mono ?_
    rintro e w1 ⟨rfl, rfl⟩
    go_wp2_with fail
    refine (isnan0_walk y _).mono ?_
    rintro e w2 ⟨rfl, rfl⟩
    go_wp2
    go_ret
    exact ⟨rfl, rfl⟩
  · subst h
    have hc : cmpZ x x = 0 := by unfold cmpZ; rw [if_neg (by omega), if_neg (by omega)]
    rw [hc]
    clear hc
    go_enter Tryz.func38, Tryz.ntmps38
    go_wp2_with fail
    refine (isnan0_walk x _).mono ?_
    rintro e w1 ⟨rfl, rfl⟩
    go_wp2_with fail
    refine (isnan0_walk x _).mono ?_
    rintro e w2 ⟨rfl, rfl⟩
    go_wp2
    go_ret
    exact ⟨rfl, rfl⟩
  · have hc : cmpZ x y = 1 := by unfold cmpZ; rw [if_neg (by omega), if_pos h]
    rw [hc]
    clear hc
    have h2 : ¬ x < y := by omega
    go_enter Tryz.func38, Tryz.ntmps38
    go_wp2_with fail
    refine (isnan0_walk x _).mono ?_
    rintro e w1 ⟨rfl, rfl⟩
    go_wp2_with fail
    refine (isnan0_walk y _).mono ?_
    rintro e w2 ⟨rfl, rfl⟩
    go_wp2
    go_ret
    exact ⟨rfl, rfl⟩
def cfE (x y : Ed) : Int := cmpZ x.t y.t
theorem ltE (x y : Ed) : ltOf cfE x y = decide (x.t < y.t) := by
  unfold ltOf cfE cmpZ
  by_cases h1 : (x.t : Int) < y.t
  · simp [h1]; omega
  · by_cases h2 : (y.t : Int) < x.t
    · simp [h1, h2]; omega
    · simp [h1, h2]; omega
theorem swoE : SWO (ltOf cfE) where
  irrefl x := by rw [ltE]; simp
  trans x y z h1 h2 := by rw [ltE] at *; simp at *; omega
  ntrans x y z h1 h2 := by rw [ltE] at *; simp at *; omega
set_option maxHeartbeats 1000000 in
theorem cmpE_walk (x y : Ed) (W : World) : Calls Tryz.prog 37 #[.agg #[.int .i64 x.f, .int .i64 x.t, .int .i64 x.k, .int .i64 x.v.a, .int .i64 x.v.b, .int .i64 x.v.c, .int .i64 x.v.d, .int .i64 x.v.e, .int .i64 x.v.f], .agg #[.int .i64 y.f, .int .i64 y.t, .int .i64 y.k, .int .i64 y.v.a, .int .i64 y.v.b, .int .i64 y.v.c, .int .i64 y.v.d, .int .i64 y.v.e, .int .i64 y.v.f]] W fun e w' => e = .returned (.int .i64 (cfE x y)) ∧ ∃ q os', w' = grow (W.drewN q) os' := by
  have hcon := fun W' => compare0_walk x.t y.t W'
  unfold cfE
  generalize cmpZ x.t y.t = r at hcon ⊢
  go_enter Tryz.func37, Tryz.ntmps37
  go_wp2_with (go_at_call 38; refine (hcon _).mono ?_; rintro e w' ⟨rfl, rfl⟩)
  go_ret
  exact ⟨rfl, 0, _, by rw [alloc_eq_grow, alloc_eq_grow, grow_grow]; rfl⟩

set_option maxHeartbeats 2000000 in
theorem sort_walk (v : Value) (l : List Ed) (B : Nat) (w : World) (O : OwnR w B 76 9 encE v l) (hl : l.length ≤ 100000) :
    Calls Tryz.prog 36 #[v, .func (.func 37) #[] #[]] w fun e w' => e = .returned (.tuple #[]) ∧ ∃ l', l'.Perm l ∧ l'.Pairwise (fun a b => a.t ≤ b.t) ∧ OwnR w' B 76 9 encE v l' ∧ Ks (ownL v) w w' := by
  by_cases h0 : l.length = 0
  · obtain ⟨a?, c, rfl⟩ := O.len
    have hnil : l = [] := List.eq_nil_of_length_eq_zero h0
    subst hnil
    have hcon := AnyF.slices_SortFunc_none sortE a? c (.func (.func 37) #[] #[]) w
    change Calls Tryz.prog 36 _ _ _ at hcon
    refine hcon.mono ?_
    rintro e w' ⟨rfl, rfl⟩
    exact ⟨rfl, [], List.Perm.refl _, List.Pairwise.nil, O, Ks.refl _ _⟩
  · have hcl := fun g hg => World.ownsRow.cells O (g := g) hg
    obtain ⟨hlen, ⟨rfl, h1⟩ | ⟨g, cap, cur, rfl, hB, hg, hn, hm, hcs, htk⟩⟩ := O
    · exact absurd h1 h0
    · have eg : ∀ args w, (callFunc 37 args).run Tryz.prog w = .ok (.enter 37 args) w := enters_of Tryz.func37 (by kernel_rfl) rfl
      have hH : HoldsK encE 9 w g 0 l.toArray := fun j hj => by
        have hj' : j < l.length * 9 := by simpa using hj
        have h2 := hcl g rfl j _ (flat_get encE 9 (by omega) l (fun _ _ => rfl) j hj')
        rw [Addr.add_lit] at h2
        exact ⟨h2, block_free hg _⟩
      have hcon := AnyQ.slices_SortFunc sortE 9 Tryz.isAgg76 Tryz.sizeOf76 encE (fun _ => rfl) (fun x v hv => by simp only [encE, List.mem_cons, List.not_mem_nil, or_false] at hv; rcases hv with rfl | rfl | rfl | rfl | rfl | rfl | rfl | rfl | rfl <;> rfl) cfE swoE 37 #[] g 0 cap l.toArray w eg (fun m os dk hs x y => cmpE_walk x y _) hH (Array.getElem?_eq_some_iff.1 hg).1 (by simp; omega)
      change Calls Tryz.prog 36 _ _ _ at hcon
      rw [List.size_toArray] at hcon
      refine hcon.mono ?_
      rintro e w' ⟨rfl, d', n, os, ⟨p1, -, p3⟩, hs, rfl⟩
      have p1 : d'.size = l.length := by simpa using p1
      have hd : d'.toList.length = l.length := by rw [Array.length_toList]; exact p1
      refine ⟨rfl, d'.toList, ?_, ?_, ?_, (sort_ks encE 9 w g n d' os).mono (fun b hb => by simpa [mem_ownL, Value.ownBlock] using (List.mem_singleton.1 hb).symm)⟩
      · have e1 : d'.extract 0 l.length = d' := by rw [← p1]; exact Array.extract_size
        have e2 : l.toArray.extract 0 l.length = l.toArray := by
          have : l.length = l.toArray.size := by simp
          rw [this]; exact Array.extract_size
        rw [e1, e2] at p3
        exact p3
      · rw [List.pairwise_iff_getElem]
        intro i j hi hj hij
        have h5 := hs i j (Nat.zero_le _) hij (by rw [← hd]; exact hj)
        rw [ltE, decide_eq_false_iff_not, getElem!_pos d' j (by simpa using hj), getElem!_pos d' i (by simpa using hi)] at h5
        simp only [Array.getElem_toList]
        omega
      · have hge : ∀ x ∈ d'.toList, (encE x).length = 9 := fun _ _ => rfl
        refine ⟨by rw [flatMap_len' hge], .inr ⟨g, cap, _, by rw [hd], hB, sort_heap encE 9 w g n d' os hg, by rw [hd]; exact hn, hm, by rw [← hcs]; simp [putCells], ?_⟩⟩
        apply List.ext_getElem?
        intro t
        have hcz : l.length * 9 ≤ cur.size := by rw [hcs]; exact Nat.mul_le_mul_right _ hn
        by_cases ht : t < d'.toList.length * 9
        · have ht' : t < d'.size * 9 := by simpa using ht
          rw [List.getElem?_take_of_lt ht, flat_get encE 9 (by omega) d'.toList hge t ht, Array.getElem?_toList]
          have htc : t < cur.size := by rw [hd] at ht; omega
          simp only [putCells, Array.getElem?_mapIdx, Nat.zero_le, true_and, Nat.zero_add, size_flatK, Nat.sub_zero, id]
          rw [Array.getElem?_eq_getElem htc, Option.map_some, if_pos ht']
        · rw [List.getElem?_eq_none (by rw [List.length_take]; omega), List.getElem?_eq_none (by rw [flatMap_len' hge]; omega)]
end Go.Proofs.YtgfaiihekibcbaaGreatDoor
