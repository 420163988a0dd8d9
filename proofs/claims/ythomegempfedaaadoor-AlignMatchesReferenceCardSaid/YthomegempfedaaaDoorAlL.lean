/-
  Open arguments of the laws of chapter 38.
-/
import Derived.Test.YthomegempfedaaaDoorAlHd
import Derived.Test.YthomegempfedaaaDoorLdB
import Derived.Test.YthomegempfedaaaDoorOpn
namespace Go.Proofs.YthomegempfedaaaDoor
open Go.RowKit Go.Sx Go.Sx.Sz Go.Sx.Al Go.ChangeShapes Go.WideShapes Go.ChangeAt

section
variable {H : Type} {enc : TypeId × Value → H} {W : World} {base : Nat} {v : Value} {d : DataW H}
def v6Fits (v : V6) : Prop := ∀ k, k < 6 → Fits .i64 (v.get k)
theorem el_vec : El enc Tryd.prog W 46 6 V6.list v6Fits := El.v6 Tryd.underlying46 Tryd.underlying3 (by kernel_rfl) (by kernel_rfl)
theorem el_size : El enc Tryd.prog W 50 2 encS (fun s => Fits .i64 s.lo ∧ Fits .i64 s.hi) :=
  (El.struct Tryd.underlying50 (by kernel_rfl) (Fs.cons (El.int Tryd.underlying3) (by kernel_rfl) rfl (Fs.cons (El.int Tryd.underlying3) (by kernel_rfl) rfl (Fs.nil _)))).map
    (fun a => (⟨a.1, a.2.1⟩ : S2)) (fun _ => rfl) (fun _ h => ⟨h.1, h.2.1⟩)
theorem el_due : El enc Tryd.prog W 48 7 encD (fun a => Fits .i64 a.t ∧ v6Fits a.x) :=
  (El.struct Tryd.underlying48 (by kernel_rfl) (Fs.cons (El.int Tryd.underlying3) (by kernel_rfl) rfl (Fs.cons el_vec (by kernel_rfl) rfl (Fs.nil _)))).map
    (fun a => (⟨a.1, a.2.1⟩ : Due)) (fun _ => rfl) (fun _ h => ⟨h.1, h.2.1⟩)
theorem el_hrd : El enc Tryd.prog W 54 3 encH (fun a => Fits .i64 a.t ∧ Fits .i64 a.s.lo ∧ Fits .i64 a.s.hi) :=
  (El.struct Tryd.underlying54 (by kernel_rfl) (Fs.cons (El.int Tryd.underlying3) (by kernel_rfl) rfl (Fs.cons el_size (by kernel_rfl) rfl (Fs.nil _)))).map
    (fun a => (⟨a.1, a.2.1⟩ : Hrd)) (fun _ => rfl) (fun _ h => ⟨h.1, h.2.1⟩)
theorem el_mt : El enc Tryd.prog W 56 2 encM (fun _ => True) :=
  (El.struct Tryd.underlying56 (by kernel_rfl) (Fs.cons (El.int Tryd.underlying3) (by kernel_rfl) rfl (Fs.cons (El.int Tryd.underlying3) (by kernel_rfl) rfl (Fs.nil _)))).map
    (fun a => (⟨a.1, a.2.1⟩ : Mt)) (fun _ => rfl) (fun _ _ => trivial)
theorem el_prc : El enc Tryd.prog W 25 2 (fun p : Prc => [.int .i64 p.skip, .int .i64 p.off]) (fun p => Fits .i64 p.skip ∧ Fits .i64 p.off) :=
  (El.struct Tryd.underlying25 (by kernel_rfl) (Fs.cons (El.int Tryd.underlying3) (by kernel_rfl) rfl (Fs.cons (El.int Tryd.underlying3) (by kernel_rfl) rfl (Fs.nil _)))).map
    (fun a => (⟨a.1, a.2.1⟩ : Prc)) (fun _ => rfl) (fun _ h => ⟨h.1, h.2.1⟩)

theorem arg_dues (h : Arg enc Tryd.prog W base 22 v d) : ∃ l, Sl W 7 encD v l ∧ l.length * 56 ≤ 140737488351232 := by
  have hb : Tryd.prog.bytesOf 48 = 56 := by kernel_rfl
  obtain ⟨l, a, _, c⟩ := Arg.slice (sz := 7) (enc := encD) Tryd.underlying22 (by kernel_rfl) (by rw [hb]; decide) el_due h
  rw [hb] at c
  exact ⟨l, a, c⟩
theorem arg_heard (h : Arg enc Tryd.prog W base 23 v d) : ∃ l, Sl W 3 encH v l ∧ l.length * 24 ≤ 140737488351232 := by
  have hb : Tryd.prog.bytesOf 54 = 24 := by kernel_rfl
  obtain ⟨l, a, _, c⟩ := Arg.slice (sz := 3) (enc := encH) Tryd.underlying23 (by kernel_rfl) (by rw [hb]; decide) el_hrd h
  rw [hb] at c
  exact ⟨l, a, c⟩
theorem arg_matches (h : Arg enc Tryd.prog W base 26 v d) : ∃ l, Sl W 2 encM v l := by
  have hb : Tryd.prog.bytesOf 56 = 16 := by kernel_rfl
  obtain ⟨l, a, _, c⟩ := Arg.slice (sz := 2) (enc := encM) Tryd.underlying26 (by kernel_rfl) (by rw [hb]; decide) el_mt h
  exact ⟨l, a⟩
theorem arg_table (h : Arg enc Tryd.prog W base 27 v d) : ∃ t, Tab W v t := by
  have hb : Tryd.prog.bytesOf 62 = 24 := by kernel_rfl
  have hb1 : Tryd.prog.bytesOf 3 = 8 := by kernel_rfl
  obtain ⟨l, a, b, c⟩ := Arg.slice (sz := 1) Tryd.underlying27 (by kernel_rfl) (by rw [hb]; decide) (El.slice (sz := 1) (enc := encZ) (ok := Fits .i64) Tryd.underlying62 (by kernel_rfl) (by rw [hb1]; decide) (El.int Tryd.underlying3)) h
  refine ⟨l.map (·.2), l.map (·.1), by simp, ?_, fun i h h' => ?_⟩
  · obtain ⟨a?, cap, rfl, h1, h2, h3, h4⟩ := a
    refine ⟨a?, cap, by simp, by simpa using h1, h2, by simpa using h3, fun i hi => ?_⟩
    obtain ⟨ad, e1, e2⟩ := h4 i (by simpa using hi)
    exact ⟨ad, e1, fun j hj => by rw [e2 j hj, List.getElem_map]⟩
  · simp only [List.getElem_map]
    exact (b _ (List.getElem_mem _)).1
theorem arg_price (h : Arg enc Tryd.prog W base 25 v d) : ∃ p : Prc, v = .agg #[.int .i64 p.skip, .int .i64 p.off] ∧ Fits .i64 p.skip ∧ Fits .i64 p.off :=
  Arg.struct Tryd.underlying25 el_prc h
end
end Go.Proofs.YthomegempfedaaaDoor
