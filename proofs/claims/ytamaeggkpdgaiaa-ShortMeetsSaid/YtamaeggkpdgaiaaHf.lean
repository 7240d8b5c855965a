/- The walks of the reference's sets: Entire, Least. -/
import Derived.Test.YtamaeggkpdgaiaaHe
namespace Go.Proofs.Ytamaeggkpdgaiaa
open Go.RowKit

theorem entire_any (w : World) :
    Calls Try.prog 99 #[] w fun e w' => e = .returned (.agg #[.int .u64 18442240474082181120, .int .u64 9218868437227405312]) ∧ Below w.heap.size w w' := by
  go_enter Try.func99, Try.ntmps99
  go_wp2
  refine bodyPost_ret (v := .agg #[.int .u64 18442240474082181120, .int .u64 9218868437227405312]) (by simp [results, Try.results99, go_sem]) rfl ⟨rfl, (by repeat (first | exact Below.refl _ _ | assumption | (refine Below.alloc ?_ (by first | exact Nat.le_refl _ | omega | (simp; done) | (simp; omega)) _) | refine Below.drew ?_ | refine below_drewN ?_ _ | (refine Below.setCell ?_ (by first | exact Nat.le_refl _ | omega | (simp; done) | (simp; omega)) _) | refine below_then ?_ (by assumption)))⟩

/-- Bits of a bound that is a number gives the pattern. -/
theorem bits_end (d : Int) (hd : d = 1 ∨ d = -1) (p : Nat) (hp : PlainE p) (hn : nanD p = false) (hi : endI p = 0) (A1 A2 : Option Addr) (c1 c2 : Nat) (w : World) (h : EndR w w.heap.size p A1 A2) :
    Calls Try.prog 100 #[.int .i64 d, .agg #[.bool (endS p), .slice A1 (wN (endN p)) c1, .slice A2 (wN (endD p)) c2]] w fun en w' => en = .returned (.int .u64 (p : Int)) ∧ Below w.heap.size w w' := by
  obtain ⟨l1, l2⟩ := end_words hp hn
  rcases end_cases hp hn with rfl | rfl | ⟨i1, s, r, hr, e1, f1, k1, z1⟩
  · exact absurd hi (by decide)
  · exact absurd hi (by decide)
  · obtain ⟨g1, g2, g3⟩ := end_fin i1
    obtain ⟨n1, n2⟩ := h
    rw [g2] at l1 n1; rw [g3] at l2 n2
    rw [g1, g2, g3]
    have hc := bits_self d s r A1 A2 (wN (ratN p)) c1 (wN (ratD p)) c2 w hd hr l1 l2 (by rw [← e1]; exact n1) (by rw [← e1]; exact n2)
    rw [← e1, f1] at hc
    exact hc

theorem end_lo {p : Nat} (hp : PlainE p) (hn : nanD p = false) (h : p ≠ 9218868437227405312) (hi : endI p ≠ 0) : p = 18442240474082181120 := by
  rcases end_cases hp hn with e | e | ⟨i1, _⟩
  · exact absurd e h
  · exact e
  · exact absurd i1 hi
theorem end_hi {p : Nat} (hp : PlainE p) (hn : nanD p = false) (h : p ≠ 18442240474082181120) (hi : endI p ≠ 0) : p = 9218868437227405312 := by
  rcases end_cases hp hn with e | e | ⟨i1, _⟩
  · exact e
  · exact absurd e h
  · exact absurd i1 hi


set_option maxRecDepth 100000 in
set_option maxHeartbeats 1000000 in
theorem least_none (p q : Nat) (A1 A2 A3 A4 : Option Addr) (c1 c2 c3 c4 : Nat) (w : World) :
    Calls Try.prog 59 #[.agg #[.bool true, .int .i64 (endI p), .bool (endS p), .slice A1 (wN (endN p)) c1, .slice A2 (wN (endD p)) c2, .int .i64 (endI q), .bool (endS q), .slice A3 (wN (endN q)) c3, .slice A4 (wN (endD q)) c4]] w
      fun e w' => e = .returned (.agg #[.int .u64 9218868437227405312, .int .u64 18442240474082181120]) ∧ Below w.heap.size w w' := by
  have HB0 : Hid (Below w.heap.size w ((w.alloc (.cells #[.bool true, .int .i64 (endI p), .bool (endS p), .slice A1 (wN (endN p)) c1, .slice A2 (wN (endD p)) c2, .int .i64 (endI q), .bool (endS q), .slice A3 (wN (endN q)) c3, .slice A4 (wN (endD q)) c4] 112)).alloc (.cells #[.int .u64 0, .int .u64 0] 27))) := Lib.hid (((Below.refl _ _).alloc (Nat.le_refl _) _).alloc (by simp) _)
  go_enter Try.func59, Try.ntmps59
  go_wp2_with fail
  refine (emptyD_any _).mono ?_
  rintro e1 w1 ⟨rfl, hb1⟩
  have HB1 := Lib.hid (below_then HB0.out hb1)
  have r0 := (hb1.cell (p := ⟨w.heap.size + 1, 0, none⟩) (by simp)).trans (show _ = some (.int .u64 0) from by simp [go_sem])
  have r1 := (hb1.cell (p := ⟨w.heap.size + 1, 1, none⟩) (by simp)).trans (show _ = some (.int .u64 0) from by simp [go_sem])
  have x0 := (hb1.frozen (p := ⟨w.heap.size + 1, 0, none⟩) (by simp)).trans (show _ = false from by simp [go_sem])
  have x1 := (hb1.frozen (p := ⟨w.heap.size + 1, 1, none⟩) (by simp)).trans (show _ = false from by simp [go_sem])
  have hz : w.heap.size + 1 < w1.heap.size := by have := hb1.size; simp at this; omega
  clear hb1
  go_wp2
  refine bodyPost_ret (v := .agg #[.int .u64 9218868437227405312, .int .u64 18442240474082181120]) (by simp [results, Try.results59, go_sem, *]) rfl ?_
  exact ⟨rfl, (HB1.out.setCell (by simp; try omega) _).setCell (by simp; try omega) _⟩


set_option maxRecDepth 100000 in
set_option maxHeartbeats 2000000 in
theorem least_any (p q : Nat) (hp : PlainE p) (hq : PlainE q) (np : nanD p = false) (nq : nanD q = false) (hpi : p ≠ 9218868437227405312) (hqi : q ≠ 18442240474082181120) (A1 A2 A3 A4 : Option Addr) (c1 c2 c3 c4 : Nat) (w : World)
    (h1 : EndR w w.heap.size p A1 A2) (h2 : EndR w w.heap.size q A3 A4) :
    Calls Try.prog 59 #[.agg #[.bool false, .int .i64 (endI p), .bool (endS p), .slice A1 (wN (endN p)) c1, .slice A2 (wN (endD p)) c2, .int .i64 (endI q), .bool (endS q), .slice A3 (wN (endN q)) c3, .slice A4 (wN (endD q)) c4]] w
      fun e w' => e = .returned (.agg #[.int .u64 (p : Int), .int .u64 (q : Int)]) ∧ Below w.heap.size w w' := by
  have H1 := Lib.hid h1; have H2 := Lib.hid h2; clear h1 h2
  have HB0 : Hid (Below w.heap.size w ((w.alloc (.cells #[.bool false, .int .i64 (endI p), .bool (endS p), .slice A1 (wN (endN p)) c1, .slice A2 (wN (endD p)) c2, .int .i64 (endI q), .bool (endS q), .slice A3 (wN (endN q)) c3, .slice A4 (wN (endD q)) c4] 112)).alloc (.cells #[.int .u64 0, .int .u64 0] 27))) := Lib.hid (((Below.refl _ _).alloc (Nat.le_refl _) _).alloc (by simp) _)
  have HPE : Hid (endI p ≠ 0 → p = 18442240474082181120) := Lib.hid (end_lo hp np hpi)
  have HQE : Hid (endI q ≠ 0 → q = 9218868437227405312) := Lib.hid (end_hi hq nq hqi)
  have BP : Hid (endI p = 0 → ∀ w' : World, EndR w' w'.heap.size p A1 A2 → Calls Try.prog 100 #[.int .i64 (-1), .agg #[.bool (endS p), .slice A1 (wN (endN p)) c1, .slice A2 (wN (endD p)) c2]] w' fun en w'' => en = .returned (.int .u64 (p : Int)) ∧ Below w'.heap.size w' w'') := Lib.hid (fun hi w' h => bits_end (-1) (Or.inr rfl) p hp np hi A1 A2 c1 c2 w' h)
  have BQ : Hid (endI q = 0 → ∀ w' : World, EndR w' w'.heap.size q A3 A4 → Calls Try.prog 100 #[.int .i64 1, .agg #[.bool (endS q), .slice A3 (wN (endN q)) c3, .slice A4 (wN (endD q)) c4]] w' fun en w'' => en = .returned (.int .u64 (q : Int)) ∧ Below w'.heap.size w' w'') := Lib.hid (fun hi w' h => bits_end 1 (Or.inl rfl) q hq nq hi A3 A4 c3 c4 w' h)
  clear hp hq np nq hpi hqi
  rcases Decidable.em (endI p = 0) with hi | hi <;> rcases Decidable.em (endI q = 0) with hj | hj
  · have t1 : (endI p == 0) = true := by simp [hi]
    have t2 : (endI q == 0) = true := by simp [hj]
    have HI := Lib.hid hi; have HJ := Lib.hid hj; clear hi hj
    go_enter Try.func59, Try.ntmps59
    go_wp2_with fail
    refine (entire_any _).mono ?_
    rintro e1 w1 ⟨rfl, hb1⟩
    have HZ1 : Hid (Below (w.heap.size + 2) ((w.alloc (.cells #[.bool false, .int .i64 (endI p), .bool (endS p), .slice A1 (wN (endN p)) c1, .slice A2 (wN (endD p)) c2, .int .i64 (endI q), .bool (endS q), .slice A3 (wN (endN q)) c3, .slice A4 (wN (endD q)) c4] 112)).alloc (.cells #[.int .u64 0, .int .u64 0] 27)) w1) := Lib.hid (hb1.mono (by simp))
    have HB1 : Hid (Below w.heap.size w (w1.alloc (.cells #[.int .u64 18442240474082181120, .int .u64 9218868437227405312] 27))) := Lib.hid ((below_then HB0.out hb1).alloc (by have := hb1.size; simp at this; omega) _)
    have hs1 : w.heap.size + 2 ≤ w1.heap.size := by have := hb1.size; simpa using this
    have hz1 : w.heap.size < w1.heap.size := by omega
    have hz1' : w.heap.size + 1 < w1.heap.size := by omega
    clear hb1
    obtain ⟨KS⟩ : Nonempty (∀ w' : World, Below (w.heap.size + 2) w1 w' → (w'.cell? ⟨w.heap.size, 1, none⟩ = some (.int .i64 (endI p)) ∧ w'.cell? ⟨w.heap.size, 2, none⟩ = some (.bool (endS p)) ∧ w'.cell? ⟨w.heap.size, 3, none⟩ = some (.slice A1 (wN (endN p)) c1) ∧ w'.cell? ⟨w.heap.size, 4, none⟩ = some (.slice A2 (wN (endD p)) c2) ∧ w'.cell? ⟨w.heap.size, 5, none⟩ = some (.int .i64 (endI q)) ∧ w'.cell? ⟨w.heap.size, 6, none⟩ = some (.bool (endS q)) ∧ w'.cell? ⟨w.heap.size, 7, none⟩ = some (.slice A3 (wN (endN q)) c3) ∧ w'.cell? ⟨w.heap.size, 8, none⟩ = some (.slice A4 (wN (endD q)) c4) ∧ w'.cell? ⟨w.heap.size + 1, 0, none⟩ = some (.int .u64 0) ∧ w'.cell? ⟨w.heap.size + 1, 1, none⟩ = some (.int .u64 0) ∧ w'.frozen? ⟨w.heap.size + 1, 0, none⟩ = false ∧ w'.frozen? ⟨w.heap.size + 1, 1, none⟩ = false)) := ⟨fun w' h => ⟨((h.cell (p := ⟨w.heap.size, 1, none⟩) (by simp; try omega)).trans (HZ1.out.cell (p := ⟨w.heap.size, 1, none⟩) (by simp; try omega))).trans (by simp [go_sem]), ((h.cell (p := ⟨w.heap.size, 2, none⟩) (by simp; try omega)).trans (HZ1.out.cell (p := ⟨w.heap.size, 2, none⟩) (by simp; try omega))).trans (by simp [go_sem]), ((h.cell (p := ⟨w.heap.size, 3, none⟩) (by simp; try omega)).trans (HZ1.out.cell (p := ⟨w.heap.size, 3, none⟩) (by simp; try omega))).trans (by simp [go_sem]), ((h.cell (p := ⟨w.heap.size, 4, none⟩) (by simp; try omega)).trans (HZ1.out.cell (p := ⟨w.heap.size, 4, none⟩) (by simp; try omega))).trans (by simp [go_sem]), ((h.cell (p := ⟨w.heap.size, 5, none⟩) (by simp; try omega)).trans (HZ1.out.cell (p := ⟨w.heap.size, 5, none⟩) (by simp; try omega))).trans (by simp [go_sem]), ((h.cell (p := ⟨w.heap.size, 6, none⟩) (by simp; try omega)).trans (HZ1.out.cell (p := ⟨w.heap.size, 6, none⟩) (by simp; try omega))).trans (by simp [go_sem]), ((h.cell (p := ⟨w.heap.size, 7, none⟩) (by simp; try omega)).trans (HZ1.out.cell (p := ⟨w.heap.size, 7, none⟩) (by simp; try omega))).trans (by simp [go_sem]), ((h.cell (p := ⟨w.heap.size, 8, none⟩) (by simp; try omega)).trans (HZ1.out.cell (p := ⟨w.heap.size, 8, none⟩) (by simp; try omega))).trans (by simp [go_sem]), ((h.cell (p := ⟨w.heap.size + 1, 0, none⟩) (by simp; try omega)).trans (HZ1.out.cell (p := ⟨w.heap.size + 1, 0, none⟩) (by simp; try omega))).trans (by simp [go_sem]), ((h.cell (p := ⟨w.heap.size + 1, 1, none⟩) (by simp; try omega)).trans (HZ1.out.cell (p := ⟨w.heap.size + 1, 1, none⟩) (by simp; try omega))).trans (by simp [go_sem]), ((h.frozen (p := ⟨w.heap.size + 1, 0, none⟩) (by simp; try omega)).trans (HZ1.out.frozen (p := ⟨w.heap.size + 1, 0, none⟩) (by simp; try omega))).trans (by simp [go_sem]), ((h.frozen (p := ⟨w.heap.size + 1, 1, none⟩) (by simp; try omega)).trans (HZ1.out.frozen (p := ⟨w.heap.size + 1, 1, none⟩) (by simp; try omega))).trans (by simp [go_sem])⟩⟩
    obtain ⟨s1, s2, s3, s4, s5, s6, s7, s8, r0, r1, x0, x1⟩ := KS w1 (Below.refl _ _)
    have HKS := Lib.hid KS; clear KS
    go_wp2_with fail
    refine (BP.out HI.out _ (H1.out.next HB1.out)).mono ?_
    rintro e2 w2 ⟨rfl, hb2⟩
    have hs2 : w1.heap.size + 1 ≤ w2.heap.size := by have := hb2.size; simpa using this
    have HX2 : Hid (Below (w1.heap.size + 1) (w1.alloc (.cells #[.int .u64 18442240474082181120, .int .u64 9218868437227405312] 27)) w2) := Lib.hid (hb2.mono (by simp))
    have HZ2 : Hid (Below (w.heap.size + 2) w1 w2) := Lib.hid (((Below.refl _ w1).alloc hs1 _).trans (HX2.out.mono (by omega)))
    have HB2 : Hid (Below w.heap.size w w2) := Lib.hid (below_then HB1.out hb2)
    clear hb2
    have g0 := (HX2.out.cell (p := ⟨w1.heap.size, 0, none⟩) (by simp)).trans (show _ = some (.int .u64 18442240474082181120) from by simp [go_sem])
    have g1 := (HX2.out.cell (p := ⟨w1.heap.size, 1, none⟩) (by simp)).trans (show _ = some (.int .u64 9218868437227405312) from by simp [go_sem])
    have y0 := (HX2.out.frozen (p := ⟨w1.heap.size, 0, none⟩) (by simp)).trans (show _ = false from by simp [go_sem])
    have y1 := (HX2.out.frozen (p := ⟨w1.heap.size, 1, none⟩) (by simp)).trans (show _ = false from by simp [go_sem])
    have hz2 : w1.heap.size < w2.heap.size := by omega
    have hzr : w.heap.size + 1 < w2.heap.size := by omega
    obtain ⟨s1, s2, s3, s4, s5, s6, s7, s8, r0, r1, x0, x1⟩ := HKS.out w2 HZ2.out
    go_wp2_with fail
    have HB2' : Hid (Below w.heap.size w (w2.setCell ⟨w1.heap.size, 0, none⟩ (.int .u64 (p : Int)))) := Lib.hid (HB2.out.setCell (by simp; try omega) _)
    have HZ2' : Hid (Below (w.heap.size + 2) w1 (w2.setCell ⟨w1.heap.size, 0, none⟩ (.int .u64 (p : Int)))) := Lib.hid (HZ2.out.setCell (by simp; try omega) _)
    refine (BQ.out HJ.out _ (H2.out.next HB2'.out)).mono ?_
    rintro e3 w3 ⟨rfl, hb3⟩
    have hs3 : w2.heap.size ≤ w3.heap.size := by have := hb3.size; simpa using this
    have HZ3 : Hid (Below (w.heap.size + 2) w1 w3) := Lib.hid (HZ2'.out.trans (hb3.mono (by simp; try omega)))
    have HB3 : Hid (Below w.heap.size w w3) := Lib.hid (below_then HB2'.out hb3)
    have g0' := (hb3.cell (p := ⟨w1.heap.size, 0, none⟩) (by simp; try omega)).trans (show _ = some (.int .u64 (p : Int)) from by simp [go_sem, *])
    have g1' := (hb3.cell (p := ⟨w1.heap.size, 1, none⟩) (by simp; try omega)).trans (show _ = some (.int .u64 9218868437227405312) from by simp [go_sem, *])
    have y0' := (hb3.frozen (p := ⟨w1.heap.size, 0, none⟩) (by simp; try omega)).trans (show _ = false from by simp [go_sem, *])
    have y1' := (hb3.frozen (p := ⟨w1.heap.size, 1, none⟩) (by simp; try omega)).trans (show _ = false from by simp [go_sem, *])
    clear hb3 g0 g1 y0 y1 s1 s2 s3 s4 s5 s6 s7 s8 r0 r1 x0 x1
    have hz3 : w1.heap.size < w3.heap.size := by omega
    have hzr3 : w.heap.size + 1 < w3.heap.size := by omega
    obtain ⟨s1, s2, s3, s4, s5, s6, s7, s8, r0, r1, x0, x1⟩ := HKS.out w3 HZ3.out
    go_wp2
    refine bodyPost_ret (v := .agg #[.int .u64 (p : Int), .int .u64 (q : Int)]) (by simp [results, Try.results59, go_sem, *]) rfl ?_
    exact ⟨rfl, ((HB3.out.setCell (by simp; try omega) _).setCell (by simp; try omega) _).setCell (by simp; try omega) _⟩
  · have t1 : (endI p == 0) = true := by simp [hi]
    have t2 : (endI q == 0) = false := by simp [hj]
    have HI := Lib.hid hi; have HJ := Lib.hid hj; clear hi hj
    have EQ := Lib.hid (HQE.out HJ.out)
    go_enter Try.func59, Try.ntmps59
    go_wp2_with fail
    refine (entire_any _).mono ?_
    rintro e1 w1 ⟨rfl, hb1⟩
    have HZ1 : Hid (Below (w.heap.size + 2) ((w.alloc (.cells #[.bool false, .int .i64 (endI p), .bool (endS p), .slice A1 (wN (endN p)) c1, .slice A2 (wN (endD p)) c2, .int .i64 (endI q), .bool (endS q), .slice A3 (wN (endN q)) c3, .slice A4 (wN (endD q)) c4] 112)).alloc (.cells #[.int .u64 0, .int .u64 0] 27)) w1) := Lib.hid (hb1.mono (by simp))
    have HB1 : Hid (Below w.heap.size w (w1.alloc (.cells #[.int .u64 18442240474082181120, .int .u64 9218868437227405312] 27))) := Lib.hid ((below_then HB0.out hb1).alloc (by have := hb1.size; simp at this; omega) _)
    have hs1 : w.heap.size + 2 ≤ w1.heap.size := by have := hb1.size; simpa using this
    have hz1 : w.heap.size < w1.heap.size := by omega
    have hz1' : w.heap.size + 1 < w1.heap.size := by omega
    clear hb1
    obtain ⟨KS⟩ : Nonempty (∀ w' : World, Below (w.heap.size + 2) w1 w' → (w'.cell? ⟨w.heap.size, 1, none⟩ = some (.int .i64 (endI p)) ∧ w'.cell? ⟨w.heap.size, 2, none⟩ = some (.bool (endS p)) ∧ w'.cell? ⟨w.heap.size, 3, none⟩ = some (.slice A1 (wN (endN p)) c1) ∧ w'.cell? ⟨w.heap.size, 4, none⟩ = some (.slice A2 (wN (endD p)) c2) ∧ w'.cell? ⟨w.heap.size, 5, none⟩ = some (.int .i64 (endI q)) ∧ w'.cell? ⟨w.heap.size, 6, none⟩ = some (.bool (endS q)) ∧ w'.cell? ⟨w.heap.size, 7, none⟩ = some (.slice A3 (wN (endN q)) c3) ∧ w'.cell? ⟨w.heap.size, 8, none⟩ = some (.slice A4 (wN (endD q)) c4) ∧ w'.cell? ⟨w.heap.size + 1, 0, none⟩ = some (.int .u64 0) ∧ w'.cell? ⟨w.heap.size + 1, 1, none⟩ = some (.int .u64 0) ∧ w'.frozen? ⟨w.heap.size + 1, 0, none⟩ = false ∧ w'.frozen? ⟨w.heap.size + 1, 1, none⟩ = false)) := ⟨fun w' h => ⟨((h.cell (p := ⟨w.heap.size, 1, none⟩) (by simp; try omega)).trans (HZ1.out.cell (p := ⟨w.heap.size, 1, none⟩) (by simp; try omega))).trans (by simp [go_sem]), ((h.cell (p := ⟨w.heap.size, 2, none⟩) (by simp; try omega)).trans (HZ1.out.cell (p := ⟨w.heap.size, 2, none⟩) (by simp; try omega))).trans (by simp [go_sem]), ((h.cell (p := ⟨w.heap.size, 3, none⟩) (by simp; try omega)).trans (HZ1.out.cell (p := ⟨w.heap.size, 3, none⟩) (by simp; try omega))).trans (by simp [go_sem]), ((h.cell (p := ⟨w.heap.size, 4, none⟩) (by simp; try omega)).trans (HZ1.out.cell (p := ⟨w.heap.size, 4, none⟩) (by simp; try omega))).trans (by simp [go_sem]), ((h.cell (p := ⟨w.heap.size, 5, none⟩) (by simp; try omega)).trans (HZ1.out.cell (p := ⟨w.heap.size, 5, none⟩) (by simp; try omega))).trans (by simp [go_sem]), ((h.cell (p := ⟨w.heap.size, 6, none⟩) (by simp; try omega)).trans (HZ1.out.cell (p := ⟨w.heap.size, 6, none⟩) (by simp; try omega))).trans (by simp [go_sem]), ((h.cell (p := ⟨w.heap.size, 7, none⟩) (by simp; try omega)).trans (HZ1.out.cell (p := ⟨w.heap.size, 7, none⟩) (by simp; try omega))).trans (by simp [go_sem]), ((h.cell (p := ⟨w.heap.size, 8, none⟩) (by simp; try omega)).trans (HZ1.out.cell (p := ⟨w.heap.size, 8, none⟩) (by simp; try omega))).trans (by simp [go_sem]), ((h.cell (p := ⟨w.heap.size + 1, 0, none⟩) (by simp; try omega)).trans (HZ1.out.cell (p := ⟨w.heap.size + 1, 0, none⟩) (by simp; try omega))).trans (by simp [go_sem]), ((h.cell (p := ⟨w.heap.size + 1, 1, none⟩) (by simp; try omega)).trans (HZ1.out.cell (p := ⟨w.heap.size + 1, 1, none⟩) (by simp; try omega))).trans (by simp [go_sem]), ((h.frozen (p := ⟨w.heap.size + 1, 0, none⟩) (by simp; try omega)).trans (HZ1.out.frozen (p := ⟨w.heap.size + 1, 0, none⟩) (by simp; try omega))).trans (by simp [go_sem]), ((h.frozen (p := ⟨w.heap.size + 1, 1, none⟩) (by simp; try omega)).trans (HZ1.out.frozen (p := ⟨w.heap.size + 1, 1, none⟩) (by simp; try omega))).trans (by simp [go_sem])⟩⟩
    obtain ⟨s1, s2, s3, s4, s5, s6, s7, s8, r0, r1, x0, x1⟩ := KS w1 (Below.refl _ _)
    have HKS := Lib.hid KS; clear KS
    go_wp2_with fail
    refine (BP.out HI.out _ (H1.out.next HB1.out)).mono ?_
    rintro e2 w2 ⟨rfl, hb2⟩
    have hs2 : w1.heap.size + 1 ≤ w2.heap.size := by have := hb2.size; simpa using this
    have HX2 : Hid (Below (w1.heap.size + 1) (w1.alloc (.cells #[.int .u64 18442240474082181120, .int .u64 9218868437227405312] 27)) w2) := Lib.hid (hb2.mono (by simp))
    have HZ2 : Hid (Below (w.heap.size + 2) w1 w2) := Lib.hid (((Below.refl _ w1).alloc hs1 _).trans (HX2.out.mono (by omega)))
    have HB2 : Hid (Below w.heap.size w w2) := Lib.hid (below_then HB1.out hb2)
    clear hb2
    have g0 := (HX2.out.cell (p := ⟨w1.heap.size, 0, none⟩) (by simp)).trans (show _ = some (.int .u64 18442240474082181120) from by simp [go_sem])
    have g1 := (HX2.out.cell (p := ⟨w1.heap.size, 1, none⟩) (by simp)).trans (show _ = some (.int .u64 9218868437227405312) from by simp [go_sem])
    have y0 := (HX2.out.frozen (p := ⟨w1.heap.size, 0, none⟩) (by simp)).trans (show _ = false from by simp [go_sem])
    have y1 := (HX2.out.frozen (p := ⟨w1.heap.size, 1, none⟩) (by simp)).trans (show _ = false from by simp [go_sem])
    have hz2 : w1.heap.size < w2.heap.size := by omega
    have hzr : w.heap.size + 1 < w2.heap.size := by omega
    obtain ⟨s1, s2, s3, s4, s5, s6, s7, s8, r0, r1, x0, x1⟩ := HKS.out w2 HZ2.out
    go_wp2
    refine bodyPost_ret (v := .agg #[.int .u64 (p : Int), .int .u64 9218868437227405312]) (by simp [results, Try.results59, go_sem, *]) rfl ?_
    exact ⟨by rw [EQ.out]; rfl, ((HB2.out.setCell (by simp; try omega) _).setCell (by simp; try omega) _).setCell (by simp; try omega) _⟩
  · have t1 : (endI p == 0) = false := by simp [hi]
    have t2 : (endI q == 0) = true := by simp [hj]
    have HI := Lib.hid hi; have HJ := Lib.hid hj; clear hi hj
    have EP := Lib.hid (HPE.out HI.out)
    go_enter Try.func59, Try.ntmps59
    go_wp2_with fail
    refine (entire_any _).mono ?_
    rintro e1 w1 ⟨rfl, hb1⟩
    have HZ1 : Hid (Below (w.heap.size + 2) ((w.alloc (.cells #[.bool false, .int .i64 (endI p), .bool (endS p), .slice A1 (wN (endN p)) c1, .slice A2 (wN (endD p)) c2, .int .i64 (endI q), .bool (endS q), .slice A3 (wN (endN q)) c3, .slice A4 (wN (endD q)) c4] 112)).alloc (.cells #[.int .u64 0, .int .u64 0] 27)) w1) := Lib.hid (hb1.mono (by simp))
    have HB1 : Hid (Below w.heap.size w (w1.alloc (.cells #[.int .u64 18442240474082181120, .int .u64 9218868437227405312] 27))) := Lib.hid ((below_then HB0.out hb1).alloc (by have := hb1.size; simp at this; omega) _)
    have hs1 : w.heap.size + 2 ≤ w1.heap.size := by have := hb1.size; simpa using this
    have hz1 : w.heap.size < w1.heap.size := by omega
    have hz1' : w.heap.size + 1 < w1.heap.size := by omega
    clear hb1
    obtain ⟨KS⟩ : Nonempty (∀ w' : World, Below (w.heap.size + 2) w1 w' → (w'.cell? ⟨w.heap.size, 1, none⟩ = some (.int .i64 (endI p)) ∧ w'.cell? ⟨w.heap.size, 2, none⟩ = some (.bool (endS p)) ∧ w'.cell? ⟨w.heap.size, 3, none⟩ = some (.slice A1 (wN (endN p)) c1) ∧ w'.cell? ⟨w.heap.size, 4, none⟩ = some (.slice A2 (wN (endD p)) c2) ∧ w'.cell? ⟨w.heap.size, 5, none⟩ = some (.int .i64 (endI q)) ∧ w'.cell? ⟨w.heap.size, 6, none⟩ = some (.bool (endS q)) ∧ w'.cell? ⟨w.heap.size, 7, none⟩ = some (.slice A3 (wN (endN q)) c3) ∧ w'.cell? ⟨w.heap.size, 8, none⟩ = some (.slice A4 (wN (endD q)) c4) ∧ w'.cell? ⟨w.heap.size + 1, 0, none⟩ = some (.int .u64 0) ∧ w'.cell? ⟨w.heap.size + 1, 1, none⟩ = some (.int .u64 0) ∧ w'.frozen? ⟨w.heap.size + 1, 0, none⟩ = false ∧ w'.frozen? ⟨w.heap.size + 1, 1, none⟩ = false)) := ⟨fun w' h => ⟨((h.cell (p := ⟨w.heap.size, 1, none⟩) (by simp; try omega)).trans (HZ1.out.cell (p := ⟨w.heap.size, 1, none⟩) (by simp; try omega))).trans (by simp [go_sem]), ((h.cell (p := ⟨w.heap.size, 2, none⟩) (by simp; try omega)).trans (HZ1.out.cell (p := ⟨w.heap.size, 2, none⟩) (by simp; try omega))).trans (by simp [go_sem]), ((h.cell (p := ⟨w.heap.size, 3, none⟩) (by simp; try omega)).trans (HZ1.out.cell (p := ⟨w.heap.size, 3, none⟩) (by simp; try omega))).trans (by simp [go_sem]), ((h.cell (p := ⟨w.heap.size, 4, none⟩) (by simp; try omega)).trans (HZ1.out.cell (p := ⟨w.heap.size, 4, none⟩) (by simp; try omega))).trans (by simp [go_sem]), ((h.cell (p := ⟨w.heap.size, 5, none⟩) (by simp; try omega)).trans (HZ1.out.cell (p := ⟨w.heap.size, 5, none⟩) (by simp; try omega))).trans (by simp [go_sem]), ((h.cell (p := ⟨w.heap.size, 6, none⟩) (by simp; try omega)).trans (HZ1.out.cell (p := ⟨w.heap.size, 6, none⟩) (by simp; try omega))).trans (by simp [go_sem]), ((h.cell (p := ⟨w.heap.size, 7, none⟩) (by simp; try omega)).trans (HZ1.out.cell (p := ⟨w.heap.size, 7, none⟩) (by simp; try omega))).trans (by simp [go_sem]), ((h.cell (p := ⟨w.heap.size, 8, none⟩) (by simp; try omega)).trans (HZ1.out.cell (p := ⟨w.heap.size, 8, none⟩) (by simp; try omega))).trans (by simp [go_sem]), ((h.cell (p := ⟨w.heap.size + 1, 0, none⟩) (by simp; try omega)).trans (HZ1.out.cell (p := ⟨w.heap.size + 1, 0, none⟩) (by simp; try omega))).trans (by simp [go_sem]), ((h.cell (p := ⟨w.heap.size + 1, 1, none⟩) (by simp; try omega)).trans (HZ1.out.cell (p := ⟨w.heap.size + 1, 1, none⟩) (by simp; try omega))).trans (by simp [go_sem]), ((h.frozen (p := ⟨w.heap.size + 1, 0, none⟩) (by simp; try omega)).trans (HZ1.out.frozen (p := ⟨w.heap.size + 1, 0, none⟩) (by simp; try omega))).trans (by simp [go_sem]), ((h.frozen (p := ⟨w.heap.size + 1, 1, none⟩) (by simp; try omega)).trans (HZ1.out.frozen (p := ⟨w.heap.size + 1, 1, none⟩) (by simp; try omega))).trans (by simp [go_sem])⟩⟩
    obtain ⟨s1, s2, s3, s4, s5, s6, s7, s8, r0, r1, x0, x1⟩ := KS w1 (Below.refl _ _)
    have HKS := Lib.hid KS; clear KS
    go_wp2_with fail
    refine (BQ.out HJ.out _ (H2.out.next HB1.out)).mono ?_
    rintro e2 w2 ⟨rfl, hb2⟩
    have hs2 : w1.heap.size + 1 ≤ w2.heap.size := by have := hb2.size; simpa using this
    have HX2 : Hid (Below (w1.heap.size + 1) (w1.alloc (.cells #[.int .u64 18442240474082181120, .int .u64 9218868437227405312] 27)) w2) := Lib.hid (hb2.mono (by simp))
    have HZ2 : Hid (Below (w.heap.size + 2) w1 w2) := Lib.hid (((Below.refl _ w1).alloc hs1 _).trans (HX2.out.mono (by omega)))
    have HB2 : Hid (Below w.heap.size w w2) := Lib.hid (below_then HB1.out hb2)
    clear hb2
    have g0 := (HX2.out.cell (p := ⟨w1.heap.size, 0, none⟩) (by simp)).trans (show _ = some (.int .u64 18442240474082181120) from by simp [go_sem])
    have g1 := (HX2.out.cell (p := ⟨w1.heap.size, 1, none⟩) (by simp)).trans (show _ = some (.int .u64 9218868437227405312) from by simp [go_sem])
    have y0 := (HX2.out.frozen (p := ⟨w1.heap.size, 0, none⟩) (by simp)).trans (show _ = false from by simp [go_sem])
    have y1 := (HX2.out.frozen (p := ⟨w1.heap.size, 1, none⟩) (by simp)).trans (show _ = false from by simp [go_sem])
    have hz2 : w1.heap.size < w2.heap.size := by omega
    have hzr : w.heap.size + 1 < w2.heap.size := by omega
    obtain ⟨s1, s2, s3, s4, s5, s6, s7, s8, r0, r1, x0, x1⟩ := HKS.out w2 HZ2.out
    go_wp2
    refine bodyPost_ret (v := .agg #[.int .u64 18442240474082181120, .int .u64 (q : Int)]) (by simp [results, Try.results59, go_sem, *]) rfl ?_
    exact ⟨by rw [EP.out]; rfl, ((HB2.out.setCell (by simp; try omega) _).setCell (by simp; try omega) _).setCell (by simp; try omega) _⟩
  · have t1 : (endI p == 0) = false := by simp [hi]
    have t2 : (endI q == 0) = false := by simp [hj]
    have HI := Lib.hid hi; have HJ := Lib.hid hj; clear hi hj
    have EP := Lib.hid (HPE.out HI.out)
    have EQ := Lib.hid (HQE.out HJ.out)
    go_enter Try.func59, Try.ntmps59
    go_wp2_with fail
    refine (entire_any _).mono ?_
    rintro e1 w1 ⟨rfl, hb1⟩
    have HZ1 : Hid (Below (w.heap.size + 2) ((w.alloc (.cells #[.bool false, .int .i64 (endI p), .bool (endS p), .slice A1 (wN (endN p)) c1, .slice A2 (wN (endD p)) c2, .int .i64 (endI q), .bool (endS q), .slice A3 (wN (endN q)) c3, .slice A4 (wN (endD q)) c4] 112)).alloc (.cells #[.int .u64 0, .int .u64 0] 27)) w1) := Lib.hid (hb1.mono (by simp))
    have HB1 : Hid (Below w.heap.size w (w1.alloc (.cells #[.int .u64 18442240474082181120, .int .u64 9218868437227405312] 27))) := Lib.hid ((below_then HB0.out hb1).alloc (by have := hb1.size; simp at this; omega) _)
    have hs1 : w.heap.size + 2 ≤ w1.heap.size := by have := hb1.size; simpa using this
    have hz1 : w.heap.size < w1.heap.size := by omega
    have hz1' : w.heap.size + 1 < w1.heap.size := by omega
    clear hb1
    obtain ⟨KS⟩ : Nonempty (∀ w' : World, Below (w.heap.size + 2) w1 w' → (w'.cell? ⟨w.heap.size, 1, none⟩ = some (.int .i64 (endI p)) ∧ w'.cell? ⟨w.heap.size, 2, none⟩ = some (.bool (endS p)) ∧ w'.cell? ⟨w.heap.size, 3, none⟩ = some (.slice A1 (wN (endN p)) c1) ∧ w'.cell? ⟨w.heap.size, 4, none⟩ = some (.slice A2 (wN (endD p)) c2) ∧ w'.cell? ⟨w.heap.size, 5, none⟩ = some (.int .i64 (endI q)) ∧ w'.cell? ⟨w.heap.size, 6, none⟩ = some (.bool (endS q)) ∧ w'.cell? ⟨w.heap.size, 7, none⟩ = some (.slice A3 (wN (endN q)) c3) ∧ w'.cell? ⟨w.heap.size, 8, none⟩ = some (.slice A4 (wN (endD q)) c4) ∧ w'.cell? ⟨w.heap.size + 1, 0, none⟩ = some (.int .u64 0) ∧ w'.cell? ⟨w.heap.size + 1, 1, none⟩ = some (.int .u64 0) ∧ w'.frozen? ⟨w.heap.size + 1, 0, none⟩ = false ∧ w'.frozen? ⟨w.heap.size + 1, 1, none⟩ = false)) := ⟨fun w' h => ⟨((h.cell (p := ⟨w.heap.size, 1, none⟩) (by simp; try omega)).trans (HZ1.out.cell (p := ⟨w.heap.size, 1, none⟩) (by simp; try omega))).trans (by simp [go_sem]), ((h.cell (p := ⟨w.heap.size, 2, none⟩) (by simp; try omega)).trans (HZ1.out.cell (p := ⟨w.heap.size, 2, none⟩) (by simp; try omega))).trans (by simp [go_sem]), ((h.cell (p := ⟨w.heap.size, 3, none⟩) (by simp; try omega)).trans (HZ1.out.cell (p := ⟨w.heap.size, 3, none⟩) (by simp; try omega))).trans (by simp [go_sem]), ((h.cell (p := ⟨w.heap.size, 4, none⟩) (by simp; try omega)).trans (HZ1.out.cell (p := ⟨w.heap.size, 4, none⟩) (by simp; try omega))).trans (by simp [go_sem]), ((h.cell (p := ⟨w.heap.size, 5, none⟩) (by simp; try omega)).trans (HZ1.out.cell (p := ⟨w.heap.size, 5, none⟩) (by simp; try omega))).trans (by simp [go_sem]), ((h.cell (p := ⟨w.heap.size, 6, none⟩) (by simp; try omega)).trans (HZ1.out.cell (p := ⟨w.heap.size, 6, none⟩) (by simp; try omega))).trans (by simp [go_sem]), ((h.cell (p := ⟨w.heap.size, 7, none⟩) (by simp; try omega)).trans (HZ1.out.cell (p := ⟨w.heap.size, 7, none⟩) (by simp; try omega))).trans (by simp [go_sem]), ((h.cell (p := ⟨w.heap.size, 8, none⟩) (by simp; try omega)).trans (HZ1.out.cell (p := ⟨w.heap.size, 8, none⟩) (by simp; try omega))).trans (by simp [go_sem]), ((h.cell (p := ⟨w.heap.size + 1, 0, none⟩) (by simp; try omega)).trans (HZ1.out.cell (p := ⟨w.heap.size + 1, 0, none⟩) (by simp; try omega))).trans (by simp [go_sem]), ((h.cell (p := ⟨w.heap.size + 1, 1, none⟩) (by simp; try omega)).trans (HZ1.out.cell (p := ⟨w.heap.size + 1, 1, none⟩) (by simp; try omega))).trans (by simp [go_sem]), ((h.frozen (p := ⟨w.heap.size + 1, 0, none⟩) (by simp; try omega)).trans (HZ1.out.frozen (p := ⟨w.heap.size + 1, 0, none⟩) (by simp; try omega))).trans (by simp [go_sem]), ((h.frozen (p := ⟨w.heap.size + 1, 1, none⟩) (by simp; try omega)).trans (HZ1.out.frozen (p := ⟨w.heap.size + 1, 1, none⟩) (by simp; try omega))).trans (by simp [go_sem])⟩⟩
    obtain ⟨s1, s2, s3, s4, s5, s6, s7, s8, r0, r1, x0, x1⟩ := KS w1 (Below.refl _ _)
    have HKS := Lib.hid KS; clear KS
    have hzr : w.heap.size + 1 < w1.heap.size := by omega
    go_wp2
    refine bodyPost_ret (v := .agg #[.int .u64 18442240474082181120, .int .u64 9218868437227405312]) (by simp [results, Try.results59, go_sem, *]) rfl ?_
    exact ⟨by rw [EP.out, EQ.out]; rfl, ((((HB0.out.trans (HZ1.out.mono (by omega))).setCell (by simp; try omega) _).setCell (by simp; try omega) _).alloc (by simp; try omega) _)⟩

end Go.Proofs.Ytamaeggkpdgaiaa
