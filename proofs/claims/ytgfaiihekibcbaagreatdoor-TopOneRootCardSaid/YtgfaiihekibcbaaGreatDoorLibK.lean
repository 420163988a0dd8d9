/-
  Libraries of these proofs, laid as one text: R23B, BmA, BmB, BmC, BmD, BmE, BmF, BmG, BmH, Sam16.
-/
import Derived.Test.YtgfaiihekibcbaaGreatDoorPlN
import Derived.Test.YtgfaiihekibcbaaGreatDoorLibM
import Derived.Test.YtgfaiihekibcbaaGreatDoorLibP
import Derived.Test.YtgfaiihekibcbaaGreatDoorAuG
import Derived.Test.YtgfaiihekibcbaaGreatDoorLibC
import Derived.Test.YtgfaiihekibcbaaGreatDoorLibB
/-
  Walks of the reference: Same (of vectors), Steps and Chains, of equal lists.
-/
set_option linter.unusedVariables false
namespace Go.Proofs.YtgfaiihekibcbaaGreatDoor
open Go.RowKit Go.Sx Go.Sx.Sz Go.Sx.Sc Go.Sx.Po

theorem Sl.ck {w : World} {a? : Option Addr} {n cap : Nat} {zs : List (Value × Cn)} (h : Sl w 8 encCk (.slice a? n cap) zs) (k : Nat) (hk : k < zs.length) : ∃ b o, a? = some ⟨b, o, none⟩ ∧ w.cell? ⟨b, o + k * 8, none⟩ = some (.int .i64 zs[k].2.pair) ∧ w.cell? ⟨b, o + k * 8 + 1, none⟩ = some zs[k].1 ∧ w.cell? ⟨b, o + k * 8 + 2, none⟩ = some (.int .i64 zs[k].2.comma.a) ∧ w.cell? ⟨b, o + k * 8 + 3, none⟩ = some (.int .i64 zs[k].2.comma.b) ∧ w.cell? ⟨b, o + k * 8 + 4, none⟩ = some (.int .i64 zs[k].2.comma.c) ∧ w.cell? ⟨b, o + k * 8 + 5, none⟩ = some (.int .i64 zs[k].2.comma.d) ∧ w.cell? ⟨b, o + k * 8 + 6, none⟩ = some (.int .i64 zs[k].2.comma.e) ∧ w.cell? ⟨b, o + k * 8 + 7, none⟩ = some (.int .i64 zs[k].2.comma.f) := by
  obtain ⟨b, o, e, hc⟩ := h.at (by omega) k hk
  exact ⟨b, o, e, hc 0 (by omega), hc 1 (by omega), hc 2 (by omega), hc 3 (by omega), hc 4 (by omega), hc 5 (by omega), hc 6 (by omega), hc 7 (by omega)⟩
/-- What lies at place k of a row of chains. -/
theorem ChR.at {w : World} {v : Value} {l : List Cn} (h : ChR w v l) : ∃ a? c, v = .slice a? l.length c ∧ l.length ≤ 140737488351232 ∧ ∀ (w' : World) (x : Ext w w') (k : Nat) (hk : k < l.length), ∃ b o sv, a? = some ⟨b, o, none⟩ ∧ w'.cell? ⟨b, o + k * 8, none⟩ = some (.int .i64 l[k].pair) ∧ w'.cell? ⟨b, o + k * 8 + 1, none⟩ = some sv ∧ w'.cell? ⟨b, o + k * 8 + 2, none⟩ = some (.int .i64 l[k].comma.a) ∧ w'.cell? ⟨b, o + k * 8 + 3, none⟩ = some (.int .i64 l[k].comma.b) ∧ w'.cell? ⟨b, o + k * 8 + 4, none⟩ = some (.int .i64 l[k].comma.c) ∧ w'.cell? ⟨b, o + k * 8 + 5, none⟩ = some (.int .i64 l[k].comma.d) ∧ w'.cell? ⟨b, o + k * 8 + 6, none⟩ = some (.int .i64 l[k].comma.e) ∧ w'.cell? ⟨b, o + k * 8 + 7, none⟩ = some (.int .i64 l[k].comma.f) ∧ Sl w' 3 encSt sv l[k].steps := by
  obtain ⟨zs, rfl, S, hz⟩ := h
  obtain ⟨a?, c, rfl, -, -, h3⟩ := S.len
  refine ⟨a?, c, by rw [List.length_map], by rw [List.length_map]; exact h3, fun w' x k hk => ?_⟩
  have hk' : k < zs.length := by rw [List.length_map] at hk; exact hk
  obtain ⟨b, o, e, q⟩ := Sl.ck (S.ext x) k hk'
  have hm := (hz zs[k] (List.getElem_mem hk')).ext x
  simp only [List.getElem_map]
  exact ⟨b, o, _, e, q.1, q.2.1, q.2.2.1, q.2.2.2.1, q.2.2.2.2.1, q.2.2.2.2.2.1, q.2.2.2.2.2.2.1, q.2.2.2.2.2.2.2, hm⟩

end Go.Proofs.YtgfaiihekibcbaaGreatDoor

/-
  Walks of blame: fits.
-/
set_option linter.unusedVariables false
namespace Go.Sx.Bl
open Go.Sx.Sz Go.Sx.Sc Go.Sx.Au Go.Sx.Po
end Go.Sx.Bl
namespace Go.Proofs.YtgfaiihekibcbaaGreatDoor
open Go.RowKit Go.Sx Go.Sx.Sz Go.Sx.Sc Go.Sx.Au Go.Sx.Po Go.Sx.Bl

end Go.Proofs.YtgfaiihekibcbaaGreatDoor

/-
  Walks of blame: hear.
-/
set_option linter.unusedVariables false
namespace Go.Sx.Bl
open Go.Sx Go.Sx.Sz Go.Sx.Sc Go.Sx.Au Go.Sx.Po Go.RowKit Go.WideMaps
/-- The deviants among the first k notes. -/
noncomputable def devM (xs : List V6) (l : List S2) : Nat → Lit → Option Lit
  | 0 => fun _ => none
  | k + 1 => if devT xs l k = true then updL (devM xs l k) (kZ (k : Int)) (.bool true) else devM xs l k
/-- A row of numbers does not lie in a block without numbers. -/
theorem Sl.off {α : Type} {w : World} {sz : Nat} {enc : α → List Value} {a? : Option Addr} {n c g : Nat} {xs : List α} (S : Sl w sz enc (.slice a? n c) xs) (hs : 0 < sz) (he : ∀ x, ∃ k, (enc x).getD 0 undef = .int .i64 k)
    (hg : ∀ j k, w.cell? ⟨g, j, none⟩ ≠ some (.int .i64 k)) : xs ≠ [] → ∀ a n' c', Value.slice a? n c = .slice (some a) n' c' → a.block ≠ g := by
  intro hx a n' c' e hb
  obtain ⟨rfl, -, -⟩ : a? = some a ∧ n = n' ∧ c = c' := by simpa using e
  have h0 : 0 < xs.length := by cases xs with
    | nil => exact absurd rfl hx
    | cons _ _ => simp
  obtain ⟨b, o, e1, hc⟩ := S.at hs 0 h0
  obtain rfl : a = ⟨b, o, none⟩ := by simpa using e1
  obtain ⟨k, hk⟩ := he xs[0]
  have := hc 0 hs
  rw [hk] at this
  subst hb
  exact hg _ _ this
end Go.Sx.Bl
namespace Go.Proofs.YtgfaiihekibcbaaGreatDoor
open Go.RowKit Go.Sx Go.Sx.Sz Go.Sx.Sc Go.Sx.Au Go.Sx.Po Go.Sx.Bl Go.WideMaps
attribute [local go_sem] Oper.semAt_some wide_fn wide_depth

end Go.Proofs.YtgfaiihekibcbaaGreatDoor

/-
  Walks of blame: Deviants.
-/
set_option linter.unusedVariables false
namespace Go.Sx.Bl
open Go.Sx Go.Sx.Sz Go.Sx.Sc Go.Sx.Au Go.Sx.Po Go.RowKit Go.WideMaps
end Go.Sx.Bl
namespace Go.Proofs.YtgfaiihekibcbaaGreatDoor
open Go.RowKit Go.Sx Go.Sx.Sz Go.Sx.Sc Go.Sx.Au Go.Sx.Po Go.Sx.Bl Go.WideMaps
end Go.Proofs.YtgfaiihekibcbaaGreatDoor

/-
  Walks of blame: Charges$1.
-/
set_option linter.unusedVariables false
namespace Go.Sx.Bl
open Go.Sx Go.Sx.Sz Go.Sx.Sc Go.Sx.Au Go.Sx.Po Go.RowKit Go.WideMaps
end Go.Sx.Bl
namespace Go.Proofs.YtgfaiihekibcbaaGreatDoor
open Go.RowKit Go.Sx Go.Sx.Sz Go.Sx.Sc Go.Sx.Au Go.Sx.Po Go.Sx.Bl Go.WideMaps
def encCg (c : Chg) : List Value := [.int .i64 c.pair, .int .i64 c.kind, .int .i64 c.note]

end Go.Proofs.YtgfaiihekibcbaaGreatDoor

/-
  Walks of blame: Charges.
-/
set_option linter.unusedVariables false
namespace Go.Sx.Bl
open Go.Sx Go.Sx.Sz Go.Sx.Sc Go.Sx.Au Go.Sx.Po Go.RowKit Go.WideMaps
/-- The pairs of the first k chains. -/
noncomputable def brM (l : List Cn) : Nat → Lit → Option Lit
  | 0 => fun _ => none
  | k + 1 => updL (brM l k) (kZ (l.getD k default).pair) (.bool true)
end Go.Sx.Bl
namespace Go.Proofs.YtgfaiihekibcbaaGreatDoor
open Go.RowKit Go.Sx Go.Sx.Sz Go.Sx.Sc Go.Sx.Au Go.Sx.Po Go.Sx.Bl Go.WideMaps
end Go.Proofs.YtgfaiihekibcbaaGreatDoor

/-
  Walks of blame: Voices.
-/
set_option linter.unusedVariables false
namespace Go.Sx.Bl
open Go.Sx Go.Sx.Sz Go.Sx.Sc Go.Sx.Au Go.Sx.Po Go.RowKit
end Go.Sx.Bl
namespace Go.Proofs.YtgfaiihekibcbaaGreatDoor
open Go.RowKit Go.Sx Go.Sx.Sz Go.Sx.Sc Go.Sx.Au Go.Sx.Po Go.Sx.Bl

end Go.Proofs.YtgfaiihekibcbaaGreatDoor

/-
  Walks: schismalaw40.has, schismaref40.Same.
-/
set_option linter.unusedVariables false
namespace Go.Proofs.YtgfaiihekibcbaaGreatDoor
open Go.RowKit Go.Sx Go.Sx.Sz Go.Sx.Sc Go.Sx.Au Go.Sx.Po Go.Sx.Bl

theorem Sl.cg {w : World} {a? : Option Addr} {n cap : Nat} {xs : List Chg} (h : Sl w 3 encCg (.slice a? n cap) xs) (k : Nat) (hk : k < xs.length) : ∃ b o, a? = some ⟨b, o, none⟩ ∧ w.cell? ⟨b, o + k * 3, none⟩ = some (.int .i64 xs[k].pair) ∧ w.cell? ⟨b, o + k * 3 + 1, none⟩ = some (.int .i64 xs[k].kind) ∧ w.cell? ⟨b, o + k * 3 + 2, none⟩ = some (.int .i64 xs[k].note) := by
  obtain ⟨b, o, e, hc⟩ := h.at (by omega) k hk
  exact ⟨b, o, e, hc 0 (by omega), hc 1 (by omega), hc 2 (by omega)⟩
end Go.Proofs.YtgfaiihekibcbaaGreatDoor

/-
  Walks: schismalaw40.rising.
-/
set_option linter.unusedVariables false
namespace Go.Proofs.YtgfaiihekibcbaaGreatDoor
open Go.RowKit Go.Sx Go.Sx.Sz Go.Sx.Sc Go.Sx.Au Go.Sx.Po Go.Sx.Bl

end Go.Proofs.YtgfaiihekibcbaaGreatDoor

/-
  Walk: schismaref16.Same.
-/
set_option linter.unusedVariables false
namespace Go.Proofs.YtgfaiihekibcbaaGreatDoor
open Go.RowKit Go.Sx Go.Sx.Sz Go.Sx.Sc

end Go.Proofs.YtgfaiihekibcbaaGreatDoor
