/- The walk of the copy of a program, and of New. -/
import Derived.Test.YtamaeggkpdgaiaaWt
import Derived.Test.YtamaeggkpdgaiaaGc
import Derived.Deep.DrawnRows
namespace Go.Proofs.Ytamaeggkpdgaiaa
open Go.RowKit

theorem flatN_all {n c : Nat} {F : Nat → Nat → Value} (h : ∀ i j, (F i j).oneCell' = true) : ∀ u ∈ flatN n c F, u.oneCell' = true := by
  intro u hu
  unfold flatN at hu
  simp only [List.mem_flatMap, List.mem_map, List.mem_range] at hu
  obtain ⟨i, _, j, _, rfl⟩ := hu
  exact h i j
theorem one_fF (L : Nat → Nat × Nat) (i j : Nat) : (fF L i j).oneCell' = true := by unfold fF; split <;> rfl
theorem one_fI (C : Nat → Nat → Int) (i j : Nat) : (fI C i j).oneCell' = true := rfl

set_option maxRecDepth 100000 in
set_option maxHeartbeats 4000000 in
theorem copied_any (vars : Int) (A1 A2 : Option Addr) (n cp1 m cp2 : Nat) (L : Nat → Nat × Nat) (C : Nat → Nat → Int) (w : World) (hn : n * 16 ≤ 140737488351232) (hm : m * 40 ≤ 140737488351232)
    (s1 : Shape A1 n cp1) (s2 : Shape A2 m cp2) (hr : RowN w w.heap.size 2 A1 n (fF L)) (hr2 : RowN w w.heap.size 5 A2 m (fI C)) :
    Calls Try.prog 67 #[.agg #[.int .i64 vars, .slice A1 n cp1, .slice A2 m cp2]] w fun e w' => MadeP vars n m L C w e w' := by
  obtain ⟨i0, hi, hz0, hz1, hz2⟩ := info_parts infoF
  obtain ⟨i5, hi5, hy0, hy1, hy2⟩ := info_parts infoI
  have HR := Lib.hid hr; have HR2 := Lib.hid hr2; have S1 := Lib.hid s1; have S2 := Lib.hid s2
  clear hr hr2 s1 s2
  go_enter Try.func67, Try.ntmps67
  go_wp2
  have KS : ∀ w' : World, Below (w.heap.size + 1) (w.alloc (.cells #[.int .i64 vars, .slice A1 n cp1, .slice A2 m cp2] 67)) w' → Below (w.heap.size + 1) (w.alloc (.cells #[.int .i64 vars, .slice A1 n cp1, .slice A2 m cp2] 67)) w' ∧ w'.cell? ⟨w.heap.size, 0, none⟩ = some (.int .i64 vars) ∧ w'.cell? ⟨w.heap.size, 1, none⟩ = some (.slice A1 n cp1) ∧ w'.cell? ⟨w.heap.size, 2, none⟩ = some (.slice A2 m cp2) := fun w' h =>
    ⟨h, (h.cell (p := ⟨_, _, none⟩) (by simp)).trans (by simp [go_sem]), (h.cell (p := ⟨_, _, none⟩) (by simp)).trans (by simp [go_sem]), (h.cell (p := ⟨_, _, none⟩) (by simp)).trans (by simp [go_sem])⟩
  have N1 : ∀ w' : World, Below (w.heap.size + 1) (w.alloc (.cells #[.int .i64 vars, .slice A1 n cp1, .slice A2 m cp2] 67)) w' → ∀ ad, A1 = some ad → ∀ j u, (flatN n 2 (fF L))[j]? = some u → w'.cell? (ad.add j) = some u := fun w' hb ad hA j u hj => (HR.out.below (((Below.refl w.heap.size w).alloc (Nat.le_refl _) _).trans (hb.mono (by omega)))).news (by omega) hA hj
  have N2 : ∀ w' : World, Below (w.heap.size + 1) (w.alloc (.cells #[.int .i64 vars, .slice A1 n cp1, .slice A2 m cp2] 67)) w' → ∀ ad, A2 = some ad → ∀ j u, (flatN m 5 (fI C))[j]? = some u → w'.cell? (ad.add j) = some u := fun w' hb ad hA j u hj => (HR2.out.below (((Below.refl w.heap.size w).alloc (Nat.le_refl _) _).trans (hb.mono (by omega)))).news (by omega) hA hj
  go_region_held3 (fun w' => (Below (w.heap.size + 1) (w.alloc (.cells #[.int .i64 vars, .slice A1 n cp1, .slice A2 m cp2] 67)) w' ∧ w'.cell? ⟨w.heap.size, 0, none⟩ = some (.int .i64 vars) ∧ w'.cell? ⟨w.heap.size, 1, none⟩ = some (.slice A1 n cp1) ∧ w'.cell? ⟨w.heap.size, 2, none⟩ = some (.slice A2 m cp2)))
    ((refine KS _ ?_; ((repeat (first | exact Below.refl _ _ | assumption | (refine Below.alloc ?_ (by first | exact Nat.le_refl _ | omega | (simp; done) | (simp; omega)) _) | refine Below.drew ?_ | (refine Below.setCell ?_ (by first | exact Nat.le_refl _ | omega | (simp; done) | (simp; omega)) _) | (refine Below.trans ?_ (Below.mono (by assumption) (by first | omega | (simp; done) | (simp; omega)))))); done)))
    (first
      | ((refine step_append_copy _ (by rfl) _ _ _ (by rfl) 31 i0 _ 2 16 Try.underlying64 hi hz0 hz1 hz2 rfl (by decide) (by rfl) A1 n cp1 (flatN n 2 (fF L)) (by rfl) S1.out (flatN_length _ _ _) (N1 _ (by first | assumption | ((repeat (first | exact Below.refl _ _ | assumption | (refine Below.alloc ?_ (by first | exact Nat.le_refl _ | omega | (simp; done) | (simp; omega)) _) | refine Below.drew ?_ | (refine Below.setCell ?_ (by first | exact Nat.le_refl _ | omega | (simp; done) | (simp; omega)) _) | (refine Below.trans ?_ (Below.mono (by assumption) (by first | omega | (simp; done) | (simp; omega)))))); done))) (flatN_all (one_fF L)) (by unfold maxLen; omega) (by omega) ?_); intro B1 q1 w1 hown1 hb1; have hs1 := hb1.size; simp at hs1)
      | ((refine step_append_copy _ (by rfl) _ _ _ (by rfl) 117 i5 _ 5 40 Try.underlying65 hi5 hy0 hy1 hy2 rfl (by decide) (by rfl) A2 m cp2 (flatN m 5 (fI C)) (by rfl) S2.out (flatN_length _ _ _) (N2 _ (by first | assumption | ((repeat (first | exact Below.refl _ _ | assumption | (refine Below.alloc ?_ (by first | exact Nat.le_refl _ | omega | (simp; done) | (simp; omega)) _) | refine Below.drew ?_ | (refine Below.setCell ?_ (by first | exact Nat.le_refl _ | omega | (simp; done) | (simp; omega)) _) | (refine Below.trans ?_ (Below.mono (by assumption) (by first | omega | (simp; done) | (simp; omega)))))); done))) (flatN_all (one_fI C)) (by unfold maxLen; omega) (by omega) ?_); intro B2 q2 w2 hown2 hb2; have hs2 := hb2.size; have r0 := (hb2.cell (p := ⟨w.heap.size + 1, 0, none⟩) (by simp; omega)).trans ((hb1.cell (p := ⟨w.heap.size + 1, 0, none⟩) (by simp)).trans (show _ = some (.int .i64 0) from by simp [go_sem])); have r1 := (hb2.cell (p := ⟨w.heap.size + 1, 1, none⟩) (by simp; omega)).trans ((hb1.cell (p := ⟨w.heap.size + 1, 1, none⟩) (by simp)).trans (show _ = some (.slice none 0 0) from by simp [go_sem])); have r2 := (hb2.cell (p := ⟨w.heap.size + 1, 2, none⟩) (by simp; omega)).trans ((hb1.cell (p := ⟨w.heap.size + 1, 2, none⟩) (by simp)).trans (show _ = some (.slice none 0 0) from by simp [go_sem])); have f0 := (World.frozen?_of_block (a := ⟨w.heap.size + 1, 0, none⟩) (hb2.block (w.heap.size + 1) (by omega))).trans ((World.frozen?_of_block (a := ⟨w.heap.size + 1, 0, none⟩) (hb1.block (w.heap.size + 1) (by simp))).trans (show _ = false from by simp [go_sem])); have f1 := (World.frozen?_of_block (a := ⟨w.heap.size + 1, 1, none⟩) (hb2.block (w.heap.size + 1) (by omega))).trans ((World.frozen?_of_block (a := ⟨w.heap.size + 1, 1, none⟩) (hb1.block (w.heap.size + 1) (by simp))).trans (show _ = false from by simp [go_sem])); have f2 := (World.frozen?_of_block (a := ⟨w.heap.size + 1, 2, none⟩) (hb2.block (w.heap.size + 1) (by omega))).trans ((World.frozen?_of_block (a := ⟨w.heap.size + 1, 2, none⟩) (hb1.block (w.heap.size + 1) (by simp))).trans (show _ = false from by simp [go_sem]))))
  all_goals
    go_wp2
    refine bodyPost_ret (v := .agg #[.int .i64 vars, .slice B1 n q1, .slice B2 m q2]) (by simp [results, Try.results67, go_sem, *]) rfl ?_
    have h1 := own_mono (own_below hown1 hb2) (base' := w.heap.size + 2) (by simp)
    have h2 := own_mono hown2 (base' := w.heap.size + 2) (by omega)
    refine ⟨B1, q1, B2, q2, rfl, own_mono (ownsRow_setCell_below (ownsRow_setCell_below (ownsRow_setCell_below h1 (by simp) _) (by simp) _) (by simp) _) (by omega), own_mono (ownsRow_setCell_below (ownsRow_setCell_below (ownsRow_setCell_below h2 (by simp) _) (by simp) _) (by simp) _) (by omega), ?_⟩
    exact (((below_then (below_then (by repeat (first | exact Below.refl _ _ | (refine Below.alloc ?_ (by first | exact Nat.le_refl _ | omega | (simp; done) | (simp; omega)) _) | refine Below.drew ?_)) hb1) hb2).setCell (by simp) _).setCell (by simp) _).setCell (by simp) _

end Go.Proofs.Ytamaeggkpdgaiaa
