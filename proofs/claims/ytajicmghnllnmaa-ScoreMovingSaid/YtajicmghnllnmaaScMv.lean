/-
  Walk: schismalaw19.moved.
-/
import Derived.Test.YtajicmghnllnmaaScCp
import Derived.Test.YtajicmghnllnmaaScMvM
import Derived.Test.YtajicmghnllnmaaOs
import Derived.Deep.DeepCutAuto
set_option linter.unusedVariables false
namespace Go.Sx
open Go.RowKit
theorem OwnR.setCell_ne {α : Type} {w : World} {B : Nat} {e : TypeId} {sz : Nat} {enc : α → List Value} {v : Value} {xs : List α} (h : OwnR w B e sz enc v xs) {g j : Nat} (hg : v.ownBlock ≠ some g) (u : Value) : OwnR (w.setCell ⟨g, j, none⟩ u) B e sz enc v xs := by
  obtain ⟨h1, h2⟩ := h
  refine ⟨h1, h2.imp id fun ⟨k, cap, cur, a, b, c, d⟩ => ⟨k, cap, cur, a, b, ?_, d⟩⟩
  exact Sz.block_ne c _ _ (fun e => hg (by rw [a, e]; rfl))
theorem OwnR.typed {α : Type} {w : World} {B : Nat} {e : TypeId} {sz : Nat} {enc : α → List Value} {v : Value} {xs : List α} (h : OwnR w B e sz enc v xs) {g : Nat} (hg : v.ownBlock = some g) : ∃ cs, w.heap[g]? = some (.cells cs e) := by
  obtain ⟨h1, ⟨rfl, h0⟩ | ⟨k, cap, cur, rfl, b, c, d⟩⟩ := h
  · cases hg
  · cases hg; exact ⟨cur, c⟩

end Go.Sx
namespace Go.Proofs.Ytajicmghnllnmaa
open Go.RowKit Go.Sx Go.Sx.Sz Go.Sx.Sc


/-- What the walk of 'moved' keeps. -/
structure MvI (w0 : World) (wb B D : Nat) (s : Sc) (v : V6) (vn vp vc : Value) (ln : List Nt) (lc : List Int) (w : World) : Prop where
  nt : OwnR w wb 40 10 encN vn ln
  pr : OwnR w wb 49 9 encP vp s.pairs
  cd : OwnR w wb 3 1 encZ vc lc
  bd : w.heap[D]? = some (.cells #[.int .i64 s.voices, vn, vp, vc] 26 (0, 0))
  bv : w.heap[B + 1]? = some (.cells v.cells 38 (0, 0))
  br : w.heap[B + 1 + 1]? = some (.cells #[.int .i64 0, .slice none 0 0, .slice none 0 0, .slice none 0 0] 26 (0, 0))
  ext : Ext w0 w
section
variable {w0 w w' : World} {wb B D : Nat} {s : Sc} {v : V6} {vn vp vc : Value} {ln : List Nt} {lc : List Int}
theorem MvI.go (h : MvI w0 wb B D s v vn vp vc ln lc w) (x : Ext w w') : MvI w0 wb B D s v vn vp vc ln lc w' :=
  ⟨h.nt.ext x, h.pr.ext x, h.cd.ext x, block_ext x h.bd, block_ext x h.bv, block_ext x h.br, h.ext.trans x⟩
theorem MvI.setN {g n cap : Nat} {L : List Nt} {k : Nat} {y : Nt} (h : MvI w0 wb B D s v (.slice (some ⟨g, 0, none⟩) n cap) vp vc (L.set k y) lc w) (hwb : B + 1 + 1 < wb) (h0 : w0.heap.size ≤ B) (hk : k < L.length) (j : Nat) (hj : j < 10) (y' : Nt) (u : Value) (hy : encN y' = (encN y).set j u) :
    MvI w0 wb B D s v (.slice (some ⟨g, 0, none⟩) n cap) vp vc (L.set k y') lc (w.setCell ⟨g, k * 10 + j, none⟩ u) := by
  have hgb : wb ≤ g := (h.nt.lt rfl).1
  obtain ⟨cs, hcs⟩ := h.nt.typed (g := g) rfl
  refine ⟨?_, h.pr.setCell_ne (fun e => ?_) _, h.cd.setCell_ne (fun e => ?_) _, block_ne h.bd _ _ ?_, block_ne h.bv _ _ ?_, block_ne h.br _ _ ?_, h.ext.setCell ?_ _⟩
  · have := OwnR.store h.nt (fun _ _ => rfl) k j (by simpa using hk) hj y' u (by rw [List.getElem_set_self]; exact hy)
    rwa [List.set_set] at this
  · obtain ⟨c2, h2⟩ := h.pr.typed e
    rw [hcs] at h2; cases h2
  · obtain ⟨c2, h2⟩ := h.cd.typed e
    rw [hcs] at h2; cases h2
  · intro e; have hb := h.bd; rw [e, hcs] at hb; cases hb
  · omega
  · omega
  · show w0.heap.size ≤ g; omega
theorem MvI.cellN {g n cap : Nat} {L : List Nt} {k : Nat} {y : Nt} (h : MvI w0 wb B D s v (.slice (some ⟨g, 0, none⟩) n cap) vp vc (L.set k y) lc w) (hk : k < L.length) (j : Nat) (hj : j < 10) :
    w.cell? ⟨g, k * 10 + j, none⟩ = some ((encN y).getD j undef) := by
  have := h.nt.cell (fun _ _ => rfl) k j (by simpa using hk) hj
  rwa [List.getElem_set_self] at this
theorem MvI.setC {g n cap : Nat} {L : List Int} {k : Nat} {y : Int} (h : MvI w0 wb B D s v vn vp (.slice (some ⟨g, 0, none⟩) n cap) ln (L.set k y) w) (hwb : B + 1 + 1 < wb) (h0 : w0.heap.size ≤ B) (hk : k < L.length) (y' : Int) :
    MvI w0 wb B D s v vn vp (.slice (some ⟨g, 0, none⟩) n cap) ln (L.set k y') (w.setCell ⟨g, k, none⟩ (.int .i64 y')) := by
  have hgb : wb ≤ g := (h.cd.lt rfl).1
  obtain ⟨cs, hcs⟩ := h.cd.typed (g := g) rfl
  refine ⟨h.nt.setCell_ne (fun e => ?_) _, h.pr.setCell_ne (fun e => ?_) _, ?_, block_ne h.bd _ _ ?_, block_ne h.bv _ _ ?_, block_ne h.br _ _ ?_, h.ext.setCell ?_ _⟩
  · obtain ⟨c2, h2⟩ := h.nt.typed e
    rw [hcs] at h2; cases h2
  · obtain ⟨c2, h2⟩ := h.pr.typed e
    rw [hcs] at h2; cases h2
  · have := OwnR.store h.cd (fun _ _ => rfl) k 0 (by simpa using hk) (by omega) y' (.int .i64 y') (by rw [List.getElem_set_self]; rfl)
    rwa [List.set_set, Nat.mul_one, Nat.add_zero] at this
  · intro e; have hb := h.bd; rw [e, hcs] at hb; cases hb
  · omega
  · omega
  · show w0.heap.size ≤ g; omega
theorem MvI.cellC {g n cap : Nat} {L : List Int} {k : Nat} {y : Int} (h : MvI w0 wb B D s v vn vp (.slice (some ⟨g, 0, none⟩) n cap) ln (L.set k y) w) (hk : k < L.length) : w.cell? ⟨g, k, none⟩ = some (.int .i64 y) := by
  have := h.cd.cell (fun _ _ => rfl) k 0 (by simpa using hk) (by omega)
  rwa [List.getElem_set_self, Nat.mul_one, Nat.add_zero] at this
theorem encN_x (n : Nt) {j : Nat} (hj : j < 6) : (encN n).getD (3 + j) undef = .int .i64 (n.x.get j) := by
  rcases lt6 hj with rfl | rfl | rfl | rfl | rfl | rfl <;> rfl
theorem encN_setx (n : Nt) {j : Nat} (hj : j < 6) (u : Int) : encN ⟨n.v, n.f, n.u, n.x.put j u, n.tied⟩ = (encN n).set (3 + j) (.int .i64 u) := by
  rcases lt6 hj with rfl | rfl | rfl | rfl | rfl | rfl <;> rfl
theorem part_set {α : Type} (f : α → α) (l : List α) {k : Nat} (hk : k < l.length) : ((l.take k).map f ++ l.drop k).set k (f l[k]) = (l.take (k + 1)).map f ++ l.drop (k + 1) := by
  have hl : ((l.take k).map f).length = k := by simp; omega
  rw [List.set_append_right _ _ (by omega), hl, Nat.sub_self, List.drop_eq_getElem_cons hk, List.set_cons_zero, List.take_succ_eq_append_getElem hk, List.map_append, List.append_assoc]
  rfl
theorem part_self {α : Type} (f : α → α) (l : List α) {k : Nat} (hk : k < l.length) : ((l.take k).map f ++ l.drop k).set k l[k] = (l.take k).map f ++ l.drop k := by
  have hl : ((l.take k).map f).length = k := by simp; omega
  rw [List.set_append_right _ _ (by omega), hl, Nat.sub_self, List.drop_eq_getElem_cons hk, List.set_cons_zero]
end

set_option maxRecDepth 100000 in
set_option maxHeartbeats 8000000 in
theorem moved_walk (vn vp vc : Value) (s : Sc) (by' : Int) (v : V6) (hok : ScOk s) (hby : -100000 ≤ by' ∧ by' ≤ 100000) (hv : within v 48 = true) (w : World) (S : ScR w vn vp vc s) :
    Calls Try.prog 27 #[.agg #[.int .i64 s.voices, vn, vp, vc], .int .i64 by', .agg #[.int .i64 v.a, .int .i64 v.b, .int .i64 v.c, .int .i64 v.d, .int .i64 v.e, .int .i64 v.f]] w fun e w' =>
      ∃ un up uc b, e = .returned (.tuple #[.agg #[.int .i64 s.voices, un, up, uc], .bool b]) ∧ ScR w' un up uc (mvS by' v s) ∧ (b = true → mvOk by' v s) ∧ Ext w w' := by
  obtain ⟨an, cn, rfl, -, -, hln⟩ := S.nt.len
  obtain ⟨ap, cp, rfl, -, -, hlp⟩ := S.pr.len
  obtain ⟨ac, cc, rfl, -, -, hlc⟩ := S.cd.len
  have hnn := hok.sz.2.1; have hpn := hok.sz.2.2.1; have hcn := hok.sz.2.2.2
  have HV := Lib.hid hok
  have HW6 := Lib.hid (Sz.within_iff.1 hv)
  clear hok hv
  go_enter Try.func27, Try.ntmps27
  go_wp2_with fail
  have X0 : Ext w (((w.alloc (.cells #[.int .i64 s.voices, .slice an s.notes.length cn, .slice ap s.pairs.length cp, .slice ac s.cads.length cc] 26)).alloc (.cells (#[.int .i64 v.a, .int .i64 v.b, .int .i64 v.c, .int .i64 v.d, .int .i64 v.e, .int .i64 v.f] : Array Value) 38)).alloc (.cells #[.int .i64 0, .slice none 0 0, .slice none 0 0, .slice none 0 0] 26)) := (by repeat (first | with_reducible exact Ext.refl _ | with_reducible assumption | with_reducible apply Ext.alloc | with_reducible apply Ext.drew | (with_reducible refine Ext.setCell ?_ (by (try simp) <;> omega) _)))
  have bv := block_alloc (block_at (w := w.alloc (.cells #[.int .i64 s.voices, .slice an s.notes.length cn, .slice ap s.pairs.length cp, .slice ac s.cads.length cc] 26)) (n := w.heap.size + 1) (by simp) (.cells (#[.int .i64 v.a, .int .i64 v.b, .int .i64 v.c, .int .i64 v.d, .int .i64 v.e, .int .i64 v.f] : Array Value) 38)) (.cells #[.int .i64 0, .slice none 0 0, .slice none 0 0, .slice none 0 0] 26)
  have br := block_at (w := (w.alloc (.cells #[.int .i64 s.voices, .slice an s.notes.length cn, .slice ap s.pairs.length cp, .slice ac s.cads.length cc] 26)).alloc (.cells (#[.int .i64 v.a, .int .i64 v.b, .int .i64 v.c, .int .i64 v.d, .int .i64 v.e, .int .i64 v.f] : Array Value) 38)) (n := w.heap.size + 1 + 1) (by simp) (.cells #[.int .i64 0, .slice none 0 0, .slice none 0 0, .slice none 0 0] 26)
  have hz : (((w.alloc (.cells #[.int .i64 s.voices, .slice an s.notes.length cn, .slice ap s.pairs.length cp, .slice ac s.cads.length cc] 26)).alloc (.cells (#[.int .i64 v.a, .int .i64 v.b, .int .i64 v.c, .int .i64 v.d, .int .i64 v.e, .int .i64 v.f] : Array Value) 38)).alloc (.cells #[.int .i64 0, .slice none 0 0, .slice none 0 0, .slice none 0 0] 26)).heap.size = w.heap.size + 3 := by simp
  obtain ⟨W, hW⟩ : ∃ W, ((w.alloc (.cells #[.int .i64 s.voices, .slice an s.notes.length cn, .slice ap s.pairs.length cp, .slice ac s.cads.length cc] 26)).alloc (.cells (#[.int .i64 v.a, .int .i64 v.b, .int .i64 v.c, .int .i64 v.d, .int .i64 v.e, .int .i64 v.f] : Array Value) 38)).alloc (.cells #[.int .i64 0, .slice none 0 0, .slice none 0 0, .slice none 0 0] 26) = W := ⟨_, rfl⟩
  obtain ⟨B, hB⟩ : ∃ B, w.heap.size = B := ⟨_, rfl⟩
  rw [hW] at X0 bv br hz ⊢
  rw [hB] at bv br hz ⊢
  have HB := Lib.hid hB; have HZ := Lib.hid hz
  clear hW hB hz
  refine (copied_walk _ _ _ s ⟨hnn, hpn, by omega⟩ _ (S.ext X0)).mono ?_
  rintro e w1 ⟨un, up, uc, rfl, on, op, oc, x1⟩
  obtain ⟨bn, dn, rfl⟩ := on.len
  obtain ⟨bp, dp, rfl⟩ := op.len
  obtain ⟨bc, dc, rfl⟩ := oc.len
  have hg : ∀ a n c, (Value.slice bn s.notes.length dn) = .slice (some a) n c → a.block < w1.heap.size := fun a n c e => (on.lt e).2
  have e1 := Ext.alloc' w1 (.cells #[.int .i64 s.voices, .slice bn s.notes.length dn, .slice bp s.pairs.length dp, .slice bc s.cads.length dc] 26)
  have bd := block_new w1 (.cells #[.int .i64 s.voices, .slice bn s.notes.length dn, .slice bp s.pairs.length dp, .slice bc s.cads.length dc] 26)
  have bv2 := block_ext (x1.trans e1) bv
  have br2 := block_ext (x1.trans e1) br
  have on2 := on.ext e1; have op2 := op.ext e1; have oc2 := oc.ext e1
  obtain ⟨W2, hW2⟩ : ∃ W, w1.alloc (.cells #[.int .i64 s.voices, .slice bn s.notes.length dn, .slice bp s.pairs.length dp, .slice bc s.cads.length dc] 26) = W := ⟨_, rfl⟩
  obtain ⟨D, hD⟩ : ∃ D, w1.heap.size = D := ⟨_, rfl⟩
  have hDB : W.heap.size ≤ D := by rw [← hD]; exact x1.size
  rw [hW2] at bd bv2 br2 on2 op2 oc2
  rw [hD] at bd hg
  have X2 : Ext W W2 := by rw [← hW2]; exact x1.trans e1
  have HW2 := Lib.hid hW2; have HD := Lib.hid hD; have HDB := Lib.hid hDB; have HG := Lib.hid hg
  clear x1 e1 on op oc bv br hW2 hD hDB hg
  go_wp2
  rw [HW2.out, HD.out]
  have I0 : MvI w W.heap.size B D s v (.slice bn s.notes.length dn) (.slice bp s.pairs.length dp) (.slice bc s.cads.length dc) s.notes s.cads W2 := ⟨on2, op2, oc2, bd, bv2, br2, X0.trans X2⟩
  have HWB : Hid (B + 1 + 1 < W.heap.size) := Lib.hid (by rw [HZ.out]; omega)
  have HB0 : Hid (w.heap.size ≤ B) := Lib.hid (by rw [HB.out]; exact Nat.le_refl _)
  have hl0 : ∀ k, k < s.notes.length → ((s.notes.take k).map (mvN by' v) ++ s.notes.drop k).length = s.notes.length := fun k hk => by simp; omega
  have HL0 := Lib.hid hl0
  clear hl0 on2 op2 oc2 bd bv2 br2 HW2 HD HG S X0 X2
  go_loopw [9, 10, 11] (fun ok i _ wr => ∃ (k : Nat) (b : Bool), k ≤ s.notes.length ∧ i = .int .i64 k ∧ ok = .bool b ∧ Hid (b = true → ∀ q, q < k → okN by' v (s.N q)) ∧ MvI w W.heap.size B D s v (.slice bn s.notes.length dn) (.slice bp s.pairs.length dp) (.slice bc s.cads.length dc) ((s.notes.take k).map (mvN by' v) ++ s.notes.drop k) s.cads wr) (fun _ i _ _ => s.notes.length - (intOf i).toNat)
  case atStart => exact ⟨0, true, by omega, rfl, rfl, Lib.hid (fun _ q h => absurd h (Nat.not_lt_zero _)), by simpa using I0⟩
  case round =>
    obtain ⟨k, b, hk, rfl, rfl, HOK, I⟩ := hrel
    by_cases hlt : k < s.notes.length
    · have hne : (s.notes.take k).map (mvN by' v) ++ s.notes.drop k ≠ [] := fun e => by
        have h2 := congrArg List.length e; rw [HL0.out k hlt] at h2; change s.notes.length = 0 at h2; omega
      obtain ⟨g, cap, e', hgw, hgs, hfr⟩ := I.nt.block hne
      obtain ⟨rfl, rfl⟩ : bn = some ⟨g, 0, none⟩ ∧ dn = cap := by rw [HL0.out k hlt] at e'; injection e' with a1 a2 a3; exact ⟨a1, a3⟩
      clear e' hne hgw hgs
      rw [← part_self (mvN by' v) s.notes hlt, ← Sc.N_eq hlt] at I
      have hpl := HL0.out k hlt
      obtain ⟨n, hn⟩ : ∃ n, s.N k = n := ⟨_, rfl⟩
      rw [hn] at I
      have hno := HV.out.nt.note hlt
      rw [hn] at hno
      unfold noteOk at hno
      have HX24 := Lib.hid (Sz.within_iff.1 hno.2.2.2)
      obtain ⟨-, ⟨n1, n2⟩, n3, -⟩ := hno
      have hnx : Hid (s.notes[k] = n) := Lib.hid (by rw [← Sc.N_eq hlt]; exact hn)
      have HN := Lib.hid hn
      obtain ⟨L, hL⟩ : ∃ L, (s.notes.take k).map (mvN by' v) ++ s.notes.drop k = L := ⟨_, rfl⟩
      have HNEXT : Hid ((s.notes.take (k + 1)).map (mvN by' v) ++ s.notes.drop (k + 1) = L.set k (mvN by' v n)) := Lib.hid (by rw [← part_set _ _ hlt, hnx.out, hL])
      rw [hL] at I hpl
      have hkL : k < L.length := by omega
      have HKL := Lib.hid hkL
      have r1 : -200000 ≤ n.f + by' ∧ n.f + by' ≤ 200000 := by omega
      have r2 : -200000 ≤ n.u + by' ∧ n.u + by' ≤ 200000 := by omega
      have i1 : (0 : Int) ≤ (k : Int) := by omega
      have i2 : (k : Int) < (s.notes.length : Int) := by omega
      have c1 := block_cell I.bd 1 _ rfl
      have q1 := I.cellN hkL 1 (by omega)
      simp only [encN, List.getD_eq_getElem?_getD, List.getElem?_cons_succ, List.getElem?_cons_zero, Option.getD_some] at q1
      have g1 := ext_cells c1; have g2 := ext_cells q1
      have HHI := Lib.hid I
      clear hn hL hkL hpl I
      obtain ⟨wo, rfl⟩ : ∃ wo : World, wo = wr := ⟨_, rfl⟩
      go_wp2
      refine wp_region_ord [(0,true), (1,true), (2,true), (3,true), (4,true), (5,true), (6,true), (7,true), (8,true), (9,true), (10,true)] 11 Ext (Ext wo) wide (by kernel_rfl) (stable_ext _) (Ext.drawn _ _) ?_
      iterate 11 (first | (apply wpOrd_yes rfl; rfl; (intro w' hw'; unfold opR; go_simp; exact ⟨Ext.refl _, rfl⟩); (simp only [List.getElem_toArray, List.getElem_cons_succ, List.getElem_cons_zero, Act.put, List.setIfInBounds_toArray, List.set_cons_succ, List.set_cons_zero]; rfl)) | (apply wpOrd_no rfl; rfl; (simp only [List.getElem_toArray, List.getElem_cons_succ, List.getElem_cons_zero, Act.put, List.setIfInBounds_toArray, List.set_cons_succ, List.set_cons_zero]; rfl)))
      refine wpOrd_nil rfl ?_
      intro w3 x3
      have I3 := HHI.out.go x3
      have z1 := I3.cellN HKL.out 1 (by omega)
      simp only [encN, List.getD_eq_getElem?_getD, List.getElem?_cons_succ, List.getElem?_cons_zero, Option.getD_some] at z1
      have z2 : w3.frozen? ⟨g, k * 10 + 1, none⟩ = false := by
        obtain ⟨cs, hcs⟩ := I3.nt.typed (g := g) rfl
        exact block_free hcs _
      have I4 := I3.setN HWB.out HB0.out HKL.out 1 (by omega) ⟨n.v, n.f + by', n.u, n.x, n.tied⟩ (.int .i64 (n.f + by')) rfl
      have d1 := block_cell I4.bd 1 _ rfl
      have y2 := I4.cellN HKL.out 2 (by omega)
      simp only [encN, List.getD_eq_getElem?_getD, List.getElem?_cons_succ, List.getElem?_cons_zero, Option.getD_some] at y2
      obtain ⟨w4, hw4⟩ : ∃ w4, w3.setCell ⟨g, k * 10 + 1, none⟩ (.int .i64 (n.f + by')) = w4 := ⟨_, rfl⟩
      rw [hw4] at I4 d1 y2
      have HW4 := Lib.hid hw4
      have HI4 := Lib.hid I4
      clear c1 q1 g1 g2 I3 I4 hfr hw4
      go_wp2
      rw [HW4.out]
      have g1 := ext_cells d1; have g2 := ext_cells y2
      clear HHI HW4 z1 z2
      refine wp_region_ord [(0,true), (1,true), (2,true), (3,true), (4,true), (5,true), (6,true), (7,true), (8,true), (9,true), (10,true)] 11 Ext (Ext w4) wide (by kernel_rfl) (stable_ext _) (Ext.drawn _ _) ?_
      iterate 11 (first | (apply wpOrd_yes rfl; rfl; (intro w' hw'; unfold opR; go_simp; exact ⟨Ext.refl _, rfl⟩); (simp only [List.getElem_toArray, List.getElem_cons_succ, List.getElem_cons_zero, Act.put, List.setIfInBounds_toArray, List.set_cons_succ, List.set_cons_zero]; rfl)) | (apply wpOrd_no rfl; rfl; (simp only [List.getElem_toArray, List.getElem_cons_succ, List.getElem_cons_zero, Act.put, List.setIfInBounds_toArray, List.set_cons_succ, List.set_cons_zero]; rfl)))
      refine wpOrd_nil rfl ?_
      intro w5 x5
      have I5 := HI4.out.go x5
      have z1 := I5.cellN HKL.out 2 (by omega)
      simp only [encN, List.getD_eq_getElem?_getD, List.getElem?_cons_succ, List.getElem?_cons_zero, Option.getD_some] at z1
      have z2 : w5.frozen? ⟨g, k * 10 + 2, none⟩ = false := by
        obtain ⟨cs, hcs⟩ := I5.nt.typed (g := g) rfl
        exact block_free hcs _
      have I6 := I5.setN HWB.out HB0.out HKL.out 2 (by omega) ⟨n.v, n.f + by', n.u + by', n.x, n.tied⟩ (.int .i64 (n.u + by')) rfl
      obtain ⟨w6, hw6⟩ : ∃ w6, w5.setCell ⟨g, k * 10 + 2, none⟩ (.int .i64 (n.u + by')) = w6 := ⟨_, rfl⟩
      rw [hw6] at I6
      have HW6' := Lib.hid hw6
      have HI6 := Lib.hid I6
      clear d1 y2 g1 g2 I5 I6 hw6 HI4
      go_upto_region 8 with fail
      rw [HW6'.out]
      clear z1 z2 HW6'
      go_cut [9] (fun s9 wx => ∃ b' : Bool, s9 = .bool b' ∧ Hid (b' = true → b = true ∧ 0 ≤ n.f + by' ∧ n.u + by' ≤ 100000) ∧ w6 = wx)
      case first =>
        cases b with
        | false =>
          go_wp2_with fail
          go_meet
          exact ⟨_, rfl, Lib.hid (fun h => by cases h), rfl⟩
        | true =>
          have d1 := block_cell HI6.out.bd 1 _ rfl
          have y1 := HI6.out.cellN HKL.out 1 (by omega)
          have y2 := HI6.out.cellN HKL.out 2 (by omega)
          simp only [encN, List.getD_eq_getElem?_getD, List.getElem?_cons_succ, List.getElem?_cons_zero, Option.getD_some] at y1 y2
          by_cases t1 : 0 ≤ n.f + by'
          · by_cases t2 : n.u + by' ≤ 100000
            · have HT := Lib.hid (And.intro t1 t2)
              go_wp2_with fail
              go_meet
              exact ⟨_, rfl, Lib.hid (fun _ => ⟨by first | rfl | trivial, HT.out.1, HT.out.2⟩), rfl⟩
            · have t2' : decide (n.u + by' ≤ 100000) = false := decide_eq_false t2
              go_wp2_with fail
              go_meet
              exact ⟨false, by first | rfl | simp, Lib.hid (fun h => by cases h), rfl⟩
          · have t1' : decide (0 ≤ n.f + by') = false := decide_eq_false t1
            go_wp2_with fail
            go_meet
            exact ⟨false, by first | rfl | simp, Lib.hid (fun h => by cases h), rfl⟩
      case rest =>
        obtain ⟨b', rfl, HOB, hww⟩ := hcut
        subst hww
        have I7 : MvI w W.heap.size B D s v (.slice (some ⟨g, 0, none⟩) s.notes.length dn) (.slice bp s.pairs.length dp) (.slice bc s.cads.length dc) (L.set k ⟨n.v, n.f + by', n.u + by', mvX v n.x 0, n.tied⟩) s.cads w6 := by rw [mvX_zero]; exact HI6.out
        clear r1 r2 HI6
        go_wp2
        go_loopw [9, 11] (fun ok i wr => ∃ (j : Nat) (c : Bool), j ≤ 6 ∧ i = .int .i64 j ∧ ok = .bool c ∧ Hid (c = true → (b = true ∧ 0 ≤ n.f + by' ∧ n.u + by' ≤ 100000) ∧ ∀ q, q < j → -24 ≤ n.x.get q + v.get q ∧ n.x.get q + v.get q ≤ 24) ∧ MvI w W.heap.size B D s v (.slice (some ⟨g, 0, none⟩) s.notes.length dn) (.slice bp s.pairs.length dp) (.slice bc s.cads.length dc) (L.set k ⟨n.v, n.f + by', n.u + by', mvX v n.x j, n.tied⟩) s.cads wr) (fun _ i _ => 6 - (intOf i).toNat)
        case atStart => exact ⟨0, b', by omega, rfl, rfl, Lib.hid (fun h => ⟨HOB.out h, fun q h => absurd h (Nat.not_lt_zero _)⟩), I7⟩
        case round =>
          obtain ⟨j, c, hj, rfl, rfl, HOC, I⟩ := hrel
          by_cases hlj : j < 6
          · have b1 := HX24.out j hlj
            have b2 := HW6.out j hlj
            obtain ⟨xj, hxj⟩ : ∃ z, n.x.get j = z := ⟨_, rfl⟩
            obtain ⟨vj, hvj⟩ : ∃ z, v.get j = z := ⟨_, rfl⟩
            have c1 := block_cell I.bd 1 _ rfl
            have cv := block_cell I.bv j _ (V6.cells_at v hlj)
            have cx := I.cellN HKL.out (3 + j) (by omega)
            rw [encN_x _ hlj] at cx
            dsimp only at cx
            rw [mvX_get _ _ hlj, hxj, ← Nat.add_assoc] at cx
            rw [hvj] at cv b2
            rw [hxj] at b1
            have HXJ := Lib.hid hxj; have HVJ := Lib.hid hvj
            have j1 : (0 : Int) ≤ (j : Int) := by omega
            have j2 : (j : Int) < 6 := by omega
            have g1 := ext_cells c1; have g2 := ext_cells cv; have g3 := ext_cells cx
            have HI := Lib.hid I
            clear hxj hvj I
            obtain ⟨wo, rfl⟩ : ∃ wo : World, wo = wr := ⟨_, rfl⟩
            go_wp2
            refine wp_region_ord [(0,true), (1,true), (2,true), (3,true), (4,true), (5,true), (6,true), (7,true), (8,true), (9,true), (10,true), (11,true), (12,true), (13,true), (14,true), (15,true), (16,true), (17,true)] 18 Ext (Ext wo) wide (by kernel_rfl) (stable_ext _) (Ext.drawn _ _) ?_
            iterate 18 (first | (apply wpOrd_yes rfl; rfl; (intro w' hw'; unfold opR; go_simp; exact ⟨Ext.refl _, rfl⟩); (simp only [List.getElem_toArray, List.getElem_cons_succ, List.getElem_cons_zero, Act.put, List.setIfInBounds_toArray, List.set_cons_succ, List.set_cons_zero]; rfl)) | (apply wpOrd_no rfl; rfl; (simp only [List.getElem_toArray, List.getElem_cons_succ, List.getElem_cons_zero, Act.put, List.setIfInBounds_toArray, List.set_cons_succ, List.set_cons_zero]; rfl)))
            refine wpOrd_nil rfl ?_
            intro w7 x7
            have I8 := HI.out.go x7
            have z1 := I8.cellN HKL.out (3 + j) (by omega)
            rw [encN_x _ hlj] at z1
            dsimp only at z1
            rw [mvX_get _ _ hlj, HXJ.out, ← Nat.add_assoc] at z1
            have z2 : w7.frozen? ⟨g, k * 10 + 3 + j, none⟩ = false := by
              obtain ⟨cs, hcs⟩ := I8.nt.typed (g := g) rfl
              exact block_free hcs _
            have I9 := I8.setN HWB.out HB0.out HKL.out (3 + j) (by omega) ⟨n.v, n.f + by', n.u + by', mvX v n.x (j + 1), n.tied⟩ (.int .i64 (xj + vj)) (by
              rw [mvX_succ _ _ hlj, HXJ.out, HVJ.out]
              exact encN_setx ⟨n.v, n.f + by', n.u + by', mvX v n.x j, n.tied⟩ hlj (xj + vj))
            rw [← Nat.add_assoc] at I9
            obtain ⟨w8, hw8⟩ : ∃ w8, w7.setCell ⟨g, k * 10 + 3 + j, none⟩ (.int .i64 (xj + vj)) = w8 := ⟨_, rfl⟩
            rw [hw8] at I9
            have HW8 := Lib.hid hw8
            have HI9 := Lib.hid I9
            clear c1 cv cx g1 g2 g3 I8 I9 hw8 HI
            have d1 := block_cell HI9.out.bd 1 _ rfl
            have y1 := HI9.out.cellN HKL.out (3 + j) (by omega)
            rw [encN_x _ hlj] at y1
            dsimp only at y1
            rw [mvX_succ _ _ hlj, V6.put_at _ hlj, HXJ.out, HVJ.out, ← Nat.add_assoc] at y1
            have NEXT : Hid ((c = true → -24 ≤ xj + vj ∧ xj + vj ≤ 24) → (c = true → (b = true ∧ 0 ≤ n.f + by' ∧ n.u + by' ≤ 100000) ∧ ∀ q, q < j + 1 → -24 ≤ n.x.get q + v.get q ∧ n.x.get q + v.get q ≤ 24)) := Lib.hid fun h0 h => by
              refine ⟨(HOC.out h).1, fun q hq => ?_⟩
              by_cases e : q = j
              · subst e; rw [HXJ.out, HVJ.out]; exact h0 h
              · exact (HOC.out h).2 q (by omega)
            cases c with
            | false =>
              clear y1 d1
              go_wp2
              rw [HW8.out]
              go_roundw
              case rel => exact ⟨j + 1, false, by omega, by go_num, rfl, Lib.hid (fun h => by cases h), HI9.out⟩
              case measure => simp [intOf] <;> omega
            | true =>
              have HW9 := Lib.hid HW8.out
              by_cases t1 : -24 ≤ xj + vj
              · by_cases t2 : xj + vj ≤ 24
                · have HT := Lib.hid (And.intro t1 t2)
                  rw [← HW8.out] at d1 y1
                  go_wp2
                  rw [HW9.out]
                  go_roundw
                  case rel => exact ⟨j + 1, true, by omega, by go_num, rfl, Lib.hid (NEXT.out (fun _ => HT.out)), HI9.out⟩
                  case measure => simp [intOf] <;> omega
                · have t2' : decide (xj + vj ≤ 24) = false := decide_eq_false t2
                  rw [← HW8.out] at d1 y1
                  go_wp2
                  rw [HW9.out]
                  go_roundw
                  case rel => exact ⟨j + 1, false, by omega, by go_num, by first | rfl | simp, Lib.hid (fun h => by cases h), HI9.out⟩
                  case measure => simp [intOf] <;> omega
              · have t1' : decide (-24 ≤ xj + vj) = false := decide_eq_false t1
                rw [← HW8.out] at d1 y1
                go_wp2
                rw [HW9.out]
                go_roundw
                case rel => exact ⟨j + 1, false, by omega, by go_num, by first | rfl | simp, Lib.hid (fun h => by cases h), HI9.out⟩
                case measure => simp [intOf] <;> omega
          · obtain rfl : j = 6 := by omega
            have hm6 : (⟨n.v, n.f + by', n.u + by', mvX v n.x 6, n.tied⟩ : Nt) = mvN by' v n := by rw [mvX_six]; rfl
            rw [hm6, ← HNEXT.out] at I
            clear hm6
            go_wp2
            go_roundw
            case rel => exact ⟨k + 1, c, by omega, by go_num, rfl, Lib.hid (fun h q hq => by
              obtain ⟨⟨h1, h2, h3⟩, h4⟩ := HOC.out h
              by_cases e : q = k
              · subst e; rw [HN.out]; exact ⟨h2, h3, h4⟩
              · exact HOK.out h1 q (by omega)), I⟩
            case measure => simp [intOf] <;> omega
    · obtain rfl : k = s.notes.length := by omega
      have HOKN := HOK
      have hmap : (s.notes.take s.notes.length).map (mvN by' v) ++ s.notes.drop s.notes.length = s.notes.map (mvN by' v) := by simp
      rw [hmap] at I
      clear hmap
      have c3 := block_cell I.bd 1 _ rfl
      go_wp2
      clear c3
      go_loopw [9, 12] (fun ok i wr => ∃ (k : Nat) (c : Bool), k ≤ s.cads.length ∧ i = .int .i64 k ∧ ok = .bool c ∧ Hid (c = true → b = true ∧ ∀ q, q < k → 1 ≤ s.C q + by' ∧ s.C q + by' < 100000) ∧ MvI w W.heap.size B D s v (.slice bn s.notes.length dn) (.slice bp s.pairs.length dp) (.slice bc s.cads.length dc) (s.notes.map (mvN by' v)) ((s.cads.take k).map (· + by') ++ s.cads.drop k) wr) (fun _ i _ => s.cads.length - (intOf i).toNat)
      case atStart => exact ⟨0, b, by omega, rfl, rfl, Lib.hid (fun h => ⟨h, fun q h => absurd h (Nat.not_lt_zero _)⟩), by simpa using I⟩
      case round =>
        obtain ⟨k, c, hk, rfl, rfl, HOC, I⟩ := hrel
        by_cases hlt : k < s.cads.length
        · have hl : ((s.cads.take k).map (· + by') ++ s.cads.drop k).length = s.cads.length := by simp; omega
          have hne : (s.cads.take k).map (· + by') ++ s.cads.drop k ≠ [] := fun e => by
            have h2 := congrArg List.length e; rw [hl] at h2; change s.cads.length = 0 at h2; omega
          obtain ⟨g, cap, e', hgw, hgs, hfr⟩ := I.cd.block hne
          obtain ⟨rfl, rfl⟩ : bc = some ⟨g, 0, none⟩ ∧ dc = cap := by rw [hl] at e'; injection e' with a1 a2 a3; exact ⟨a1, a3⟩
          clear e' hne hgw hgs hfr
          rw [← part_self (· + by') s.cads hlt, ← Sc.C_eq hlt] at I
          obtain ⟨x, hx⟩ : ∃ n, s.C k = n := ⟨_, rfl⟩
          rw [hx] at I
          have hcx := HV.out.cd.1 k hlt
          rw [hx] at hcx
          have HX := Lib.hid hx
          have hx' : Hid (s.cads[k] = x) := Lib.hid (by rw [← Sc.C_eq hlt]; exact hx)
          obtain ⟨L, hL⟩ : ∃ L, (s.cads.take k).map (· + by') ++ s.cads.drop k = L := ⟨_, rfl⟩
          have HNEXT : Hid ((s.cads.take (k + 1)).map (· + by') ++ s.cads.drop (k + 1) = L.set k (x + by')) := Lib.hid (by rw [← part_set _ _ hlt, hx'.out, hL])
          rw [hL] at I hl
          have HKL : Hid (k < L.length) := Lib.hid (by omega)
          have i1 : (0 : Int) ≤ (k : Int) := by omega
          have i2 : (k : Int) < (s.cads.length : Int) := by omega
          have c1 := block_cell I.bd 3 _ rfl
          have q1 := I.cellC HKL.out
          have g1 := ext_cells c1; have g2 := ext_cells q1
          have HI := Lib.hid I
          clear hx hL hl I
          obtain ⟨wo, rfl⟩ : ∃ wo : World, wo = wr := ⟨_, rfl⟩
          go_wp2
          refine wp_region_ord [(0,true), (1,true), (2,true), (3,true), (4,true), (5,true), (6,true), (7,true), (8,true), (9,true)] 10 Ext (Ext wo) wide (by kernel_rfl) (stable_ext _) (Ext.drawn _ _) ?_
          iterate 10 (first | (apply wpOrd_yes rfl; rfl; (intro w' hw'; unfold opR; go_simp; exact ⟨Ext.refl _, rfl⟩); (simp only [List.getElem_toArray, List.getElem_cons_succ, List.getElem_cons_zero, Act.put, List.setIfInBounds_toArray, List.set_cons_succ, List.set_cons_zero]; rfl)) | (apply wpOrd_no rfl; rfl; (simp only [List.getElem_toArray, List.getElem_cons_succ, List.getElem_cons_zero, Act.put, List.setIfInBounds_toArray, List.set_cons_succ, List.set_cons_zero]; rfl)))
          refine wpOrd_nil rfl ?_
          intro w7 x7
          have I8 := HI.out.go x7
          have z1 := I8.cellC HKL.out
          have z2 : w7.frozen? ⟨g, k, none⟩ = false := by
            obtain ⟨cs, hcs⟩ := I8.cd.typed (g := g) rfl
            exact block_free hcs _
          have I9 := I8.setC HWB.out HB0.out HKL.out (x + by')
          obtain ⟨w8, hw8⟩ : ∃ w8, w7.setCell ⟨g, k, none⟩ (.int .i64 (x + by')) = w8 := ⟨_, rfl⟩
          rw [hw8] at I9
          have HW8 := Lib.hid hw8
          have HI9 := Lib.hid I9
          clear c1 q1 g1 g2 I8 I9 hw8 HI
          have d1 := block_cell HI9.out.bd 3 _ rfl
          have y1 := HI9.out.cellC HKL.out
          have NEXT : Hid ((c = true → 1 ≤ x + by' ∧ x + by' < 100000) → (c = true → b = true ∧ ∀ q, q < k + 1 → 1 ≤ s.C q + by' ∧ s.C q + by' < 100000)) := Lib.hid fun h0 h => by
            refine ⟨(HOC.out h).1, fun q hq => ?_⟩
            by_cases e : q = k
            · subst e; rw [HX.out]; exact h0 h
            · exact (HOC.out h).2 q (by omega)
          cases c with
          | false =>
            clear y1 d1
            go_wp2
            rw [HW8.out]
            go_roundw
            case rel => exact ⟨k + 1, false, by omega, by go_num, rfl, Lib.hid (fun h => by cases h), by rw [HNEXT.out]; exact HI9.out⟩
            case measure => simp [intOf] <;> omega
          | true =>
            have HW9 := Lib.hid HW8.out
            rw [← HW8.out] at d1 y1
            by_cases t1 : 1 ≤ x + by'
            · by_cases t2 : x + by' < 100000
              · have HT := Lib.hid (And.intro t1 t2)
                go_wp2
                rw [HW9.out]
                go_roundw
                case rel => exact ⟨k + 1, true, by omega, by go_num, rfl, Lib.hid (NEXT.out (fun _ => HT.out)), by rw [HNEXT.out]; exact HI9.out⟩
                case measure => simp [intOf] <;> omega
              · have t2' : decide (x + by' < 100000) = false := decide_eq_false t2
                go_wp2
                rw [HW9.out]
                go_roundw
                case rel => exact ⟨k + 1, false, by omega, by go_num, by first | rfl | simp, Lib.hid (fun h => by cases h), by rw [HNEXT.out]; exact HI9.out⟩
                case measure => simp [intOf] <;> omega
            · have t1' : decide (1 ≤ x + by') = false := decide_eq_false t1
              go_wp2
              rw [HW9.out]
              go_roundw
              case rel => exact ⟨k + 1, false, by omega, by go_num, by first | rfl | simp, Lib.hid (fun h => by cases h), by rw [HNEXT.out]; exact HI9.out⟩
              case measure => simp [intOf] <;> omega
        · obtain rfl : k = s.cads.length := by omega
          have hmap : (s.cads.take s.cads.length).map (· + by') ++ s.cads.drop s.cads.length = s.cads.map (· + by') := by simp
          rw [hmap] at I
          clear hmap
          have HF : Hid (c = true → mvOk by' v s) := Lib.hid fun h => ⟨HOKN.out (HOC.out h).1, (HOC.out h).2⟩
          have hln : (s.notes.map (mvN by' v)).length = s.notes.length := List.length_map _
          have hlc : (s.cads.map (· + by')).length = s.cads.length := List.length_map _
          have n5 := I.nt.setRow (OwnR.apart_below I.nt HWB.out) #[.int .i64 s.voices, .slice bn s.notes.length dn, .slice bp s.pairs.length dp, .slice bc s.cads.length dc]
          have n9 := I.pr.setRow (OwnR.apart_below I.pr HWB.out) #[.int .i64 s.voices, .slice bn s.notes.length dn, .slice bp s.pairs.length dp, .slice bc s.cads.length dc]
          have n13 := I.cd.setRow (OwnR.apart_below I.cd HWB.out) #[.int .i64 s.voices, .slice bn s.notes.length dn, .slice bp s.pairs.length dp, .slice bc s.cads.length dc]
          have SR : ScR _ _ _ _ (mvS by' v s) := ⟨n5.sl (fun _ _ => rfl) (by omega), n9.sl (fun _ _ => rfl) (by omega), n13.sl (fun _ _ => rfl) (by omega)⟩
          have HSR := Lib.hid SR
          have d2 := setRow_at I.br #[.int .i64 s.voices, .slice bn s.notes.length dn, .slice bp s.pairs.length dp, .slice bc s.cads.length dc]
          have e0 := block_cell d2 0 _ rfl; have e1 := block_cell d2 1 _ rfl; have e2 := block_cell d2 2 _ rfl; have e3 := block_cell d2 3 _ rfl
          have k0 := block_cell I.bd 0 _ rfl; have k1 := block_cell I.bd 1 _ rfl; have k2 := block_cell I.bd 2 _ rfl; have k3 := block_cell I.bd 3 _ rfl
          have d1 := I.br
          have XX := I.ext.setRow (g := B + 1 + 1) (by have := HB0.out; omega) #[.int .i64 s.voices, .slice bn s.notes.length dn, .slice bp s.pairs.length dp, .slice bc s.cads.length dc]
          clear n5 n9 n13 SR hln hlc d2 I
          go_wp2_with (first | (refine wpList_store_row rfl _ _ _ rfl (B + 1 + 1) _ rfl rfl _ _ d1 (by kernel_rfl) rfl (by simp [Value.oneCell']) ?_) | fail)
          refine bodyPost_ret (v := .tuple #[.agg #[.int .i64 s.voices, .slice bn s.notes.length dn, .slice bp s.pairs.length dp, .slice bc s.cads.length dc], .bool c]) (by simp [results, Try.results27, go_sem, e0, e1, e2, e3]) rfl ⟨_, _, _, c, rfl, HSR.out, HF.out, XX⟩
end Go.Proofs.Ytajicmghnllnmaa
