/-
  Walks of chain: slices.Backward over the levels; what is kept but for some blocks.
-/
import Derived.Test.YtgfaiihekibcbaaGreatDoorGpE
import Derived.Test.YtgfaiihekibcbaaGreatDoorLibV
set_option maxRecDepth 100000
set_option linter.unusedVariables false
namespace Go.Sx
open Go.RowKit
/-- Nothing that was there has turned but, maybe, the blocks of a list. -/
structure Ks (S : List Nat) (w w' : World) : Prop where
  os : w'.os = w.os
  tape : w'.tape = w.tape
  output : w'.output = w.output
  size : w.heap.size ≤ w'.heap.size
  kept : ∀ b, b < w.heap.size → b ∉ S → w'.heap[b]? = w.heap[b]?
theorem Ks.refl (S : List Nat) (w : World) : Ks S w w := ⟨rfl, rfl, rfl, Nat.le_refl _, fun _ _ _ => rfl⟩
theorem Ks.trans {S : List Nat} {a b c : World} (h : Ks S a b) (k : Ks S b c) : Ks S a c :=
  ⟨k.os.trans h.os, k.tape.trans h.tape, k.output.trans h.output, Nat.le_trans h.size k.size, fun x hx hg => (k.kept x (Nat.lt_of_lt_of_le hx h.size) hg).trans (h.kept x hx hg)⟩
theorem Ext.ks {a b : World} (h : Ext a b) (S : List Nat) : Ks S a b := ⟨h.os, h.tape, h.output, h.size, fun x hx _ => h.block x hx⟩
theorem Ks.setCell {S : List Nat} {a w : World} (h : Ks S a w) {p : Addr} (hp : p.block ∈ S ∨ a.heap.size ≤ p.block) (u : Value) : Ks S a (w.setCell p u) :=
  ⟨h.os, h.tape, h.output, by simpa using h.size, fun b hb hg => by
    refine (Below.heap_setCell w p u b (fun e => ?_)).trans (h.kept b hb hg)
    subst e
    rcases hp with hp | hp
    · exact hg hp
    · omega⟩
theorem Ks.setCells {S : List Nat} {a : World} {g : Nat} (hg : g ∈ S ∨ a.heap.size ≤ g) : ∀ (vs : List Value) (w : World) (o : Nat), Ks S a w → Ks S a (w.setCells g o vs)
  | [], w, o, h => h
  | v :: vs, w, o, h => Ks.setCells hg vs _ (o + 1) (h.setCell (p := ⟨g, o, none⟩) hg v)
theorem Ks.setRow {S : List Nat} {a w : World} (h : Ks S a w) {g : Nat} (hg : g ∈ S ∨ a.heap.size ≤ g) (cs : Array Value) : Ks S a (w.setRow g cs) := by
  have hb := below_setRow (Below.refl g w) (Nat.le_refl g) cs
  exact ⟨hb.os.trans h.os, hb.tape.trans h.tape, hb.output.trans h.output, Nat.le_trans h.size hb.size, fun b hb' hn => (setRow_other w g b cs (fun e => by
    subst e
    rcases hg with hg | hg
    · exact hn hg
    · omega)).trans (h.kept b hb' hn)⟩
theorem Ks.appd {S : List Nat} {a w w' : World} {v v' : Value} (h : Ks S a w) (A : Appd w w' v v') (hv : ∀ b, v.ownBlock = some b → a.heap.size ≤ b) : Ks S a w' :=
  ⟨A.os.trans h.os, A.tape.trans h.tape, A.output.trans h.output, Nat.le_trans h.size A.size, fun b hb hg => (A.kept b (Nat.lt_of_lt_of_le hb h.size) (fun e => by have := hv b e.symm; omega)).trans (h.kept b hb hg)⟩
theorem Ks.at {S : List Nat} {w w' : World} (h : Ks S w w') {k : Nat} {o : Obj} (hk : w.heap[k]? = some o) (hne : k ∉ S) : w'.heap[k]? = some o := (h.kept k (Array.getElem?_eq_some_iff.1 hk).1 hne).trans hk
theorem Ks.below {S : List Nat} {w w' : World} (h : Ks S w w') {B : Nat} (hB : B ≤ w.heap.size) (hg : ∀ b ∈ S, B ≤ b) : Below B w w' :=
  ⟨h.os, h.tape, h.output, h.size, fun b hb => h.kept b (by omega) (fun e => by have := hg b e; omega)⟩
theorem Bk.ks {α : Type} {S : List Nat} {w w' : World} {g : Nat} {e : TypeId} {enc : α → List Value} {xs : List α} (h : Bk w g e enc xs) (k : Ks S w w') (hg : g ∉ S) : Bk w' g e enc xs := by
  obtain ⟨cs, h1, h2⟩ := h; exact ⟨cs, k.at h1 hg, h2⟩
theorem Abide.ks {B : Nat} {S : List Nat} {w : World} (h2 : w.heap.size ≤ B) : Abide B (fun W => Ks S w W) :=
  ⟨fun _ _ h k => h.trans (k.ks S), fun _ W' l h hl k => by
    obtain ⟨o, o', h1, h3, h4, rfl⟩ := k
    exact ⟨h.os, h.tape, h.output, by simpa using h.size, fun b hb hg => (World.putObj_heap_other (by omega)).trans (h.kept b hb hg)⟩⟩
theorem KeepsFrom.ks {B : Nat} {S : List Nat} {W W' : World} (k : Ks S W W') (hc : ∀ g ∈ S, ∃ cs e z, W.heap[g]? = some (.cells cs e z)) : KeepsFrom B W W' :=
  ⟨k.size, fun i o _ hi ho => by
    by_cases h : i ∈ S
    · obtain ⟨cs, e, z, hc⟩ := hc i h
      rw [hi] at hc; cases hc; cases ho
    · exact k.at hi h⟩
end Go.Sx
namespace Go.Proofs.YtgfaiihekibcbaaGreatDoor
open Go.RowKit Go.Sx Go.Sx.Sz Go.Sx.Sc Go.Sx.Po Go.Sx.Ch
attribute [local go_sem] Oper.semAt_some wide_fn wide_depth

def encTb (N : Nat) (b : Nat) : List Value := [.slice (some ⟨b, 0, none⟩) N N]
def encBT (N : Nat) (tb : List Nat) (m : Nat) : Array Value := #[.int .i64 m, .slice (some ⟨tb.getD m 0, 0, none⟩) N N]

set_option maxHeartbeats 4000000 in
theorem backt_iter (Bs : Nat) (v : Value) (N : Nat) (tb : List Nat) :
    IterC Tryz.prog 71 #[.pointer (some ⟨Bs, 0, none⟩)] (encBT N tb) (rgL (fun j => tb.length - 1 - j) tb.length) (fun W => W.cell? ⟨Bs, 0, none⟩ = some v ∧ Sl W 1 (encTb N) v tb) := by
  intro y J Jx W hJ hJx hN hY h0
  rw [rgL_len] at *
  obtain ⟨hb0, hs0⟩ := hN _ _ h0
  obtain ⟨a?, cap, rfl, h1, h2, h3⟩ := hs0.len
  clear h1 h2 hs0
  refine callsIn_of_wp Tryz.func71 rfl trivial ?_ rfl
  simp only [Tryz.ntmps71, List.size_toArray, List.length_cons, List.length_nil, Nat.reduceAdd, Nat.reduceSub, Array.replicate_succ, Array.replicate_zero, List.push_toArray, List.append_toArray, List.nil_append, List.cons_append]
  gi_wp2
  gi_loopw [3] (fun i wr => ∃ k : Nat, k ≤ tb.length ∧ i = .int .i64 ((tb.length : Int) - 1 - (k : Int)) ∧ J k wr) (fun i _ => (intOf i + 1).toNat)
  case atStart => exact ⟨0, Nat.zero_le _, by simp, h0⟩
  case round =>
    obtain ⟨k, hk, rfl, hJk⟩ := hrel
    obtain ⟨hb, hs⟩ := hN _ _ hJk
    clear hb0
    by_cases hlt : k < tb.length
    · obtain ⟨m, hm⟩ : ∃ m : Nat, m = tb.length - 1 - k := ⟨_, rfl⟩
      have hmi : (tb.length : Int) - 1 - (k : Int) = (m : Int) := by omega
      have hml : m < tb.length := by omega
      obtain ⟨b0, o0, rfl, A⟩ := hs.at1 m hml
      obtain ⟨fn, tmps, assign, body, hy, hR⟩ := hY k wr (by rw [rgL_len]; exact hlt) hJk
      rw [rgL_get, ← hm] at hy
      simp only [encBT] at hy
      have hg : tb.getD m 0 = tb[m] := by rw [List.getD_eq_getElem?_getD, List.getElem?_eq_getElem hml]; rfl
      rw [hg] at hy
      obtain ⟨p, hp⟩ : ∃ p, tb[m] = p := ⟨_, rfl⟩
      rw [hp] at hy A
      replace A : wr.cell? ⟨b0, o0 + m, none⟩ = some (.slice (some ⟨p, 0, none⟩) N N) := A
      rw [hmi]
      have HM := Lib.hid hm
      have j1 : (0 : Int) ≤ (m : Int) := by omega
      have j2 : (m : Int) < (tb.length : Int) := by omega
      clear hs hm hmi hp hg
      gi_wp2
      refine hR.mono ?_
      rintro e W3 (⟨rfl, hJ3⟩ | ⟨rfl, hJx3⟩)
      · gi_wp2
        go_roundw
        case rel => exact ⟨k + 1, by omega, congrArg (Value.int .i64) (by have := HM.out; omega), hJ3⟩
        case measure => have := HM.out; simp [intOf] <;> omega
      · gi_wp2
        refine bodyPost_ret (results_none rfl _ _ _) rfl ?_
        exact ⟨⟨_, rfl⟩, .inr hJx3⟩
    · obtain rfl : k = tb.length := by omega
      clear hs
      gi_wp2
      refine bodyPost_end (results_none rfl _ _ _) rfl ?_
      exact ⟨⟨_, rfl⟩, .inl hJk⟩

theorem backt_walk (a? : Option Addr) (n c : Nat) (w : World) :
    Calls Tryz.prog 42 #[.slice a? n c] w fun e w' => e = .returned (.func (.func 71) #[] #[.pointer (some ⟨w.heap.size, 0, none⟩)]) ∧ w.alloc (.cells #[.slice a? n c] 86) = w' := by
  go_enter Tryz.func42, Tryz.ntmps42
  go_wp2
  go_ret
  exact ⟨rfl, rfl⟩
end Go.Proofs.YtgfaiihekibcbaaGreatDoor
