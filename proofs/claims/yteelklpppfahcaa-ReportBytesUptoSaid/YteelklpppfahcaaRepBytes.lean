/-
  Proved: 'ReportBytes' returns true for every input whose slices hold together at most 1048576 values, and leaves its arguments as they were.
-/
import Derived.Test.YteelklpppfahcaaRepK
import Derived.Test.YteelklpppfahcaaRepQ
import Derived.Test.YteelklpppfahcaaAp
import Derived.Test.YteelklpppfahcaaShut
import Derived.Test.YteelklpppfahcaaBulk
set_option linter.unusedVariables false
namespace Go.Proofs.Yteelklpppfahcaa
open Go.RowKit Go.Sx Go.Sx.Rep Go.ChangeShapes Go.WideShapes Go.ChangeAt

theorem oneCell_encB {x : Int} : ∀ u ∈ encB x, u.oneCell' = true := by simp [encB, Value.oneCell']
theorem len_encB {x : Int} : (encB x).length = 1 := rfl

/-- An owned row that another's append does not reach. -/
theorem OwnR_appd {α : Type} {w w' : World} {B : Nat} {e : TypeId} {sz : Nat} {enc : α → List Value} {v u u' : Value} {xs : List α} (h : OwnR w B e sz enc v xs) (k : Appd w w' u u') (hne : ∀ g, v.ownBlock = some g → u.ownBlock ≠ some g) : OwnR w' B e sz enc v xs := by
  obtain ⟨h1, h2⟩ := h
  refine ⟨h1, h2.imp id fun ⟨g, cap, cur, a, b, c, d⟩ => ⟨g, cap, cur, a, b, ?_, d⟩⟩
  rw [k.kept g (Array.getElem?_eq_some_iff.1 c).1 (fun e => hne g (by rw [a]; rfl) e.symm)]
  exact c

set_option maxHeartbeats 2000000 in
theorem bytes_walk (u v : Value) (xs ys : List Int) (x y : Int) (w : World) (S : Sl w 1 encB u xs) (T : Sl w 1 encB v ys) (hx : 0 ≤ x ∧ x ≤ 255) (hy : 0 ≤ y ∧ y ≤ 255) (n1 : xs.length ≤ 1048576) (n2 : ys.length ≤ 1048576) :
    Calls Try.prog 3 #[u, .int .u8 x, .int .u8 y, v] w fun e w' => e = .returned (.bool true) ∧ Ext w w' := by
  have hF := fnv_byte xs ys x y hx hy
  obtain ⟨s, hs⟩ : ∃ s, fnv ((xs ++ [x]) ++ ys) = s := ⟨_, rfl⟩
  obtain ⟨t, ht⟩ : ∃ t, fnv ((xs ++ [y]) ++ ys) = t := ⟨_, rfl⟩
  rw [hs, ht] at hF
  have HF := Lib.hid hF; have HS := Lib.hid hs; have HT := Lib.hid ht
  clear hF hs ht hx hy
  obtain ⟨a?, cap, rfl, h1, h2, h3⟩ := S.len
  obtain ⟨b?, cbp, rfl, k1, k2, k3⟩ := T.len
  clear h1 h2 k1 k2
  go_enter Try.func3, Try.ntmps3
  go_wp2_with fail
  refine (head_walk _).mono ?_
  rintro e w1 ⟨rfl, x1⟩
  have o0 := own_lit (enc := encB) (B := w1.heap.size) (e := 5) (sz := 1) w1 #[] [] 0 rfl (Nat.le_refl _) rfl rfl (by simp)
  have S1 := S.ext (x1.alloc (.cells #[] 5))
  go_wp2_with (first
    | (at_builtin; first
      | (refine wpList_own_sl et_u8 rfl _ _ rfl o0 rfl xs _ S1 rfl (fun _ _ => len_encB) (fun _ _ => oneCell_encB) (by simp; omega) (by simp) ?_; intro va wa oa ba aa; rw [List.nil_append] at oa; have hsa := ba.size; simp only [World.size_alloc] at hsa; clear o0 S1)
      | (refine wpList_own1 et_u8 rfl _ _ rfl oa rfl x rfl rfl rfl oneCell_encB (by simp; omega) (by omega) ?_; intro vb wb ob bb ab _
         have hsb := bb.size
         have X2 : Ext w wb := Ext.trans x1 (Below.trans (Below.trans (Ext.alloc' w1 _) ba) bb)
         have o2 := own_lit (enc := encB) (B := wb.heap.size) (e := 5) (sz := 1) wb #[] [] 0 rfl (Nat.le_refl _) rfl rfl (by simp)
         have S2 := S.ext (X2.alloc (.cells #[] 5))
         clear oa)
      | (refine wpList_own_sl et_u8 rfl _ _ rfl o2 rfl xs _ S2 rfl (fun _ _ => len_encB) (fun _ _ => oneCell_encB) (by simp; omega) (by simp) ?_; intro vc wc oc bc ac; rw [List.nil_append] at oc; have hsc := bc.size; simp only [World.size_alloc] at hsc; clear o2 S2)
      | (refine wpList_own1 et_u8 rfl _ _ rfl oc rfl y rfl rfl rfl oneCell_encB (by simp; omega) (by omega) ?_; intro vd wd od bd ad _
         have hsd := bd.size
         have x4 : Ext wb wd := Below.trans (Below.trans (Ext.alloc' wb _) bc) bd
         have X4 : Ext w wd := X2.trans x4
         have ob4 := ob.ext x4
         have hob := World.ownsRow.lt ob
         have T4 := T.ext X4
         clear oc ob)
      | (refine wpList_own_sl et_u8 rfl _ _ rfl ob4 rfl ys _ T4 rfl (fun _ _ => len_encB) (fun _ _ => oneCell_encB) (by simp; omega) (by omega) ?_; intro ve we oe be ae; have hse := be.size
         have od5 := OwnR_appd od ae (fun g hg hh => by have h1 := World.ownsRow.lt od g hg; have h2 := hob g hh; omega)
         have X5 : Ext w we := Below.trans X4 (Below.mono be x1.size)
         have T5 := T.ext X5
         have se := oe.sl (fun _ _ => len_encB) (by simp; omega)
         clear ob4 T4 hob od oe)
      | (refine wpList_own_sl et_u8 rfl _ _ rfl od5 rfl ys _ T5 rfl (fun _ _ => len_encB) (fun _ _ => oneCell_encB) (by simp; omega) (by omega) ?_; intro vf wf of bf af
         have X6 : Ext w wf := Below.trans X5 (Below.mono bf (Nat.le_trans X2.size (Nat.le_refl _)))
         have sf := of.sl (fun _ _ => len_encB) (by simp; omega)
         clear od5 T5 of)
      | fail)
    | (go_at_call 11; first
      | (refine (sum_walk _ _ _ se).mono ?_; rw [HS.out]; rintro e w7 ⟨rfl, rfl⟩; clear se)
      | (refine (sum_walk _ _ _ sf).mono ?_; rw [HT.out]; rintro e w8 ⟨rfl, rfl⟩; clear sf S T; have hF := HF.out)
      | fail))
  go_ret
  exact ⟨rfl, X6⟩

theorem reportBytes_args (H : Type) (enc : TypeId × Value → H) (W : World) (base : Nat) (vs : List Value) (ds : List (DataW H)) (hk : Rows.uptoSmall H ds = true) (hA : Args enc Try.prog W base Try.f3.params.toList vs ds) :
    Calls Try.prog 3 vs.toArray W fun e W' => e = .returned (.bool true) ∧ Ext W W' := by
  rw [Try.params3] at hA
  obtain ⟨v0, _, d0, _, rfl, rfl, h0, hA⟩ := hA.cons
  obtain ⟨v1, _, d1, _, rfl, rfl, h1, hA⟩ := hA.cons
  obtain ⟨v2, _, d2, _, rfl, rfl, h2, hA⟩ := hA.cons
  obtain ⟨v3, _, d3, _, rfl, rfl, h3, hA⟩ := hA.cons
  obtain ⟨rfl, rfl⟩ := hA.nil
  obtain ⟨xs, S, l0, _⟩ := h0.sl Try.underlying22 (by kernel_rfl) (of_decide_eq_true (by kernel_rfl)) (elem_int Try.underlying5)
  obtain ⟨x, rfl, hx⟩ := h1.int Try.underlying5
  obtain ⟨y, rfl, hy⟩ := h2.int Try.underlying5
  obtain ⟨ys, T, l3, _⟩ := h3.sl Try.underlying22 (by kernel_rfl) (of_decide_eq_true (by kernel_rfl)) (elem_int Try.underlying5)
  have m0 := bulk_len (d := d0) (by simp) hk
  have m3 := bulk_len (d := d3) (by simp) hk
  exact bytes_walk v0 v3 xs ys x y W S T hx hy (by omega) (by omega)

set_option maxRecDepth 100000 in
theorem reportBytes_lifted (os : Os) (started : os.Started) (H : Type) (enc : TypeId × Value → H) (F : Stop.Interp) :
    ReturnsInHanded {} Try.checked os 3 .any ((Rows.OpenSpec.upto Rows.reportBytesSpec).pre6 enc Try.prog Try.f3 Rows.reportBytesUptoRow.domain false) ((((Rows.OpenSpec.upto Rows.reportBytesSpec)).at F).post enc Try.prog Try.f3 false true false false) :=
  law_upto (C := Try.checked) (s := (Rows.OpenSpec.upto Rows.reportBytesSpec)) (k := Rows.uptoSmall) rfl (by kernel_rfl) started (by kernel_rfl) Try.func3
    (OpenSpec.witness (enc := enc) (C := Try.checked) (s := (Rows.OpenSpec.upto Rows.reportBytesSpec)) (k := Rows.uptoSmall) rfl false ⟨#[], #[.slice none 0 0, .int .u8 0, .int .u8 0, .slice none 0 0], []⟩ 8 (by kernel_rfl) (by kernel_rfl) (by kernel_rfl) (x := ([.nil, .lit (.int .u8 0), .lit (.int .u8 0), .nil], [], [])) (by kernel_rfl) rfl (by kernel_rfl))
    (by kernel_rfl) (by kernel_rfl) (by kernel_rfl) rfl (fun ds h => by match ds, h with | [_, _, _, _], _ => rfl) (reportBytes_args H enc)

theorem reportBytes_holds : Rows.ReportBytesUptoSaid :=
  OpenClaim.holds_of_cond 3 Try.f3 rfl rfl rfl rfl rfl rfl rfl ⟨rfl, rfl, rfl, rfl, rfl⟩ rfl rfl rfl rfl rfl (by kernel_rfl) Try.func3 (by kernel_rfl)
    (of_decide_eq_true (by kernel_rfl)) (by unfold Func.isWrapper; first | (rw [if_pos (by decide +kernel)]; kernel_rfl) | (rw [if_neg (by decide +kernel)]; exact ⟨rfl, rfl⟩))
    (fun os started H enc _ F => reportBytes_lifted os started H enc F)
end Go.Proofs.Yteelklpppfahcaa
