/- The walk of the reference's check of a line. -/
import Derived.Test.YtamaeggkpdgaiaaWq
import Derived.Test.YtamaeggkpdgaiaaGb
import Derived.Test.YtamaeggkpdgaiaaWl
import Derived.Test.YtamaeggkpdgaiaaWm
namespace Go.Proofs.Ytamaeggkpdgaiaa
open Go.RowKit

set_option maxRecDepth 100000 in
set_option maxHeartbeats 400000 in
theorem operand_0 (op a b c N : Int) (w : World) :
    Calls Try.prog 80 #[.agg #[.int .i64 op, .int .i64 a, .int .i64 b, .int .i64 c, .int .i64 N], .int .i64 0] w fun e w' => e = .returned (.int .i64 a) ∧ Below w.heap.size w w' := by
  go_enter Try.func80, Try.ntmps80
  go_wp2
  all_goals
    go_ret
    exact ⟨rfl, (by repeat (first | exact Below.refl _ _ | (refine Below.alloc ?_ (by first | exact Nat.le_refl _ | omega | (simp; done) | (simp; omega)) _) | refine Below.drew ?_ | refine below_drewN ?_ _ | (refine Below.setCell ?_ (by first | exact Nat.le_refl _ | omega | (simp; done) | (simp; omega)) _) | refine below_then ?_ (by assumption)))⟩

set_option maxRecDepth 100000 in
set_option maxHeartbeats 400000 in
theorem operand_1 (op a b c N : Int) (w : World) :
    Calls Try.prog 80 #[.agg #[.int .i64 op, .int .i64 a, .int .i64 b, .int .i64 c, .int .i64 N], .int .i64 1] w fun e w' => e = .returned (.int .i64 b) ∧ Below w.heap.size w w' := by
  go_enter Try.func80, Try.ntmps80
  go_wp2
  all_goals
    go_ret
    exact ⟨rfl, (by repeat (first | exact Below.refl _ _ | (refine Below.alloc ?_ (by first | exact Nat.le_refl _ | omega | (simp; done) | (simp; omega)) _) | refine Below.drew ?_ | refine below_drewN ?_ _ | (refine Below.setCell ?_ (by first | exact Nat.le_refl _ | omega | (simp; done) | (simp; omega)) _) | refine below_then ?_ (by assumption)))⟩

set_option maxRecDepth 100000 in
set_option maxHeartbeats 400000 in
theorem operand_2 (op a b c N : Int) (w : World) :
    Calls Try.prog 80 #[.agg #[.int .i64 op, .int .i64 a, .int .i64 b, .int .i64 c, .int .i64 N], .int .i64 2] w fun e w' => e = .returned (.int .i64 c) ∧ Below w.heap.size w w' := by
  go_enter Try.func80, Try.ntmps80
  go_wp2
  all_goals
    go_ret
    exact ⟨rfl, (by repeat (first | exact Below.refl _ _ | (refine Below.alloc ?_ (by first | exact Nat.le_refl _ | omega | (simp; done) | (simp; omega)) _) | refine Below.drew ?_ | refine below_drewN ?_ _ | (refine Below.setCell ?_ (by first | exact Nat.le_refl _ | omega | (simp; done) | (simp; omega)) _) | refine below_then ?_ (by assumption)))⟩

set_option maxRecDepth 100000 in
set_option maxHeartbeats 4000000 in
theorem line16_aux (vars : Int) (A1 : Option Addr) (b off : Nat) (n cp1 m cp2 : Nat) (op a x c N : Int) (i : Nat) (hv : 0 ≤ vars) (hv2 : vars ≤ 32) (hi2 : i ≤ 1024) (him : i < m) (w : World) (hbB : b < w.heap.size)
    (d0 : w.cell? ⟨b, off + i * 5, none⟩ = some (.int .i64 op)) (d1 : w.cell? ⟨b, off + i * 5 + 1, none⟩ = some (.int .i64 a)) (d2 : w.cell? ⟨b, off + i * 5 + 2, none⟩ = some (.int .i64 x)) (d3 : w.cell? ⟨b, off + i * 5 + 3, none⟩ = some (.int .i64 c)) (d4 : w.cell? ⟨b, off + i * 5 + 4, none⟩ = some (.int .i64 N)) :
    Calls Try.prog 66 #[.agg #[.int .i64 vars, .slice A1 n cp1, .slice (some ⟨b, off, none⟩) m cp2], .int .i64 (i : Int)] w
      fun e w' => e = .returned (.int .i64 (lineE vars n i op a x c N)) ∧ Below w.heap.size w w' := by
  have hwr : wrap64 (vars + i) = vars + i := by unfold wrap64; omega
  cases hn : decide (opsN op < 0)
  case true =>
    have HN := Lib.hid hn
    go_enter Try.func66, Try.ntmps66
    go_wp2_with (go_at_call 79; refine (operands16_any _ _).mono ?_; rintro e w' ⟨rfl, rfl⟩)
    go_ret
    exact ⟨ret_int (by unfold lineE; rw [HN.out]; rfl), (by repeat (first | exact Below.refl _ _ | (refine Below.alloc ?_ (by first | exact Nat.le_refl _ | omega | (simp; done) | (simp; omega)) _) | refine Below.drew ?_ | refine below_drewN ?_ _ | (refine Below.setCell ?_ (by first | exact Nat.le_refl _ | omega | (simp; done) | (simp; omega)) _) | refine below_then ?_ (by assumption)))⟩
  case false =>
    have HN := Lib.hid hn
    have HL : Hid (lineE vars n i op a x c N = bif badO vars i (opsN op) 0 a then 164 else bif badO vars i (opsN op) 1 x then 164 else bif badO vars i (opsN op) 2 c then 164 else tailE n op N) := Lib.hid (by unfold lineE; rw [HN.out]; rfl)
    have B0 := Lib.hid (badO_cases vars i (opsN op) 0 a); have B1 := Lib.hid (badO_cases vars i (opsN op) 1 x); have B2 := Lib.hid (badO_cases vars i (opsN op) 2 c)
    go_enter Try.func66, Try.ntmps66
    go_wp2_with (go_at_call 79; refine (operands16_any _ _).mono ?_; rintro e w' ⟨rfl, rfl⟩)
    clear d0 d1 d2 d3 d4
    go_loopw [7] (fun v wr => ∃ k : Nat, k ≤ 3 ∧ v = .int .i64 k ∧ Below (w.heap.size + 2) ((w.alloc (.cells #[.int .i64 vars, .slice A1 n cp1, .slice (some ⟨b, off, none⟩) m cp2] 60)).alloc (.cells #[.int .i64 op, .int .i64 a, .int .i64 x, .int .i64 c, .int .i64 N] 120)) wr ∧
      (1 ≤ k → badO vars i (opsN op) 0 a = false) ∧ (2 ≤ k → badO vars i (opsN op) 1 x = false) ∧ (3 ≤ k → badO vars i (opsN op) 2 c = false)) (fun v _ => 3 - (intOf v).toNat)
    case atStart => exact ⟨0, by omega, rfl, Below.refl _ _, by omega, by omega, by omega⟩
    case round =>
      obtain ⟨k, hk, rfl, hbel, p0, p1, p2⟩ := hrel
      have P0 := Lib.hid p0; have P1 := Lib.hid p1; have P2 := Lib.hid p2; clear p0 p1 p2
      have hsz := hbel.size
      simp at hsz
      have HBel := Lib.hid hbel
      have cl : ∀ bb oo, bb < w.heap.size + 2 → wr.cell? ⟨bb, oo, none⟩ = (((w.alloc (.cells #[.int .i64 vars, .slice A1 n cp1, .slice (some ⟨b, off, none⟩) m cp2] 60)).alloc (.cells #[.int .i64 op, .int .i64 a, .int .i64 x, .int .i64 c, .int .i64 N] 120))).cell? ⟨bb, oo, none⟩ := fun bb oo hh => hbel.cell (p := ⟨bb, oo, none⟩) hh
      have v0 : wr.cell? ⟨w.heap.size, 0, none⟩ = some (.int .i64 vars) := by rw [cl _ _ (by omega)]; simp [go_sem]
      have v1 : wr.cell? ⟨w.heap.size, 1, none⟩ = some (.slice A1 n cp1) := by rw [cl _ _ (by omega)]; simp [go_sem]
      have c0 : wr.cell? ⟨w.heap.size + 1, 0, none⟩ = some (.int .i64 op) := by rw [cl _ _ (by omega)]; simp [go_sem]
      have c1 : wr.cell? ⟨w.heap.size + 1, 1, none⟩ = some (.int .i64 a) := by rw [cl _ _ (by omega)]; simp [go_sem]
      have c2 : wr.cell? ⟨w.heap.size + 1, 2, none⟩ = some (.int .i64 x) := by rw [cl _ _ (by omega)]; simp [go_sem]
      have c3 : wr.cell? ⟨w.heap.size + 1, 3, none⟩ = some (.int .i64 c) := by rw [cl _ _ (by omega)]; simp [go_sem]
      have c4 : wr.cell? ⟨w.heap.size + 1, 4, none⟩ = some (.int .i64 N) := by rw [cl _ _ (by omega)]; simp [go_sem]
      have hz0 : w.heap.size < wr.heap.size := by omega
      have hz1 : w.heap.size + 1 < wr.heap.size := by omega
      clear cl hbel
      have HB0 : Hid (Below w.heap.size w ((w.alloc (.cells #[.int .i64 vars, .slice A1 n cp1, .slice (some ⟨b, off, none⟩) m cp2] 60)).alloc (.cells #[.int .i64 op, .int .i64 a, .int .i64 x, .int .i64 c, .int .i64 N] 120))) := Lib.hid (by repeat (first | exact Below.refl _ _ | (refine Below.alloc ?_ (by first | exact Nat.le_refl _ | omega | (simp; done) | (simp; omega)) _) | refine Below.drew ?_ | refine below_drewN ?_ _ | (refine Below.setCell ?_ (by first | exact Nat.le_refl _ | omega | (simp; done) | (simp; omega)) _) | refine below_then ?_ (by assumption)))
      generalize opsN op = q at *
      rcases (show k = 0 ∨ k = 1 ∨ k = 2 ∨ k = 3 by omega) with rfl | rfl | rfl | rfl
      case inl =>
        rcases B0.out with ⟨e1, e2, ⟨e3, e4⟩ | ⟨e3, e4⟩⟩ | ⟨e1, e2, e4⟩
        case inl.inl =>
          have E4 := Lib.hid e4; clear e4
          go_wp2_with (go_at_call 80; refine (operand_0 _ _ _ _ _ _).mono ?_; rintro e w1 ⟨rfl, hb⟩; obtain ⟨hc, hf⟩ := bcell hb)
          go_ret
          exact ⟨ret_int (by rw [HL.out, E4.out]; rfl), (below_then (HB0.out.trans (HBel.out.mono (by omega))) hb)⟩
        case inl.inr =>
          cases hb : badO vars i q 0 a
          case false =>
            rw [hb] at e4; have E4 := Lib.hid hb; clear hb
            go_wp2_with (go_at_call 80; refine (operand_0 _ _ _ _ _ _).mono ?_; rintro e w1 ⟨rfl, hb⟩; obtain ⟨hc, hf⟩ := bcell hb)
            go_roundw
            case rel => exact ⟨1, (by first | trivial | omega), (by first | trivial | rfl), (HBel.out.trans (hb.mono (by omega))), (by first | trivial | exact fun _ => E4.out | exact E4.out | omega), (by first | trivial | omega), (by first | trivial | omega)⟩
            case measure => simp [intOf]
          case true =>
            rw [hb] at e4; have E4 := Lib.hid hb; clear hb
            go_wp2_with (go_at_call 80; refine (operand_0 _ _ _ _ _ _).mono ?_; rintro e w1 ⟨rfl, hb⟩; obtain ⟨hc, hf⟩ := bcell hb)
            go_ret
            exact ⟨ret_int (by rw [HL.out, E4.out]; rfl), (below_then (HB0.out.trans (HBel.out.mono (by omega))) hb)⟩
        case inr =>
          cases hb : badO vars i q 0 a
          case false =>
            rw [hb] at e4; have E4 := Lib.hid hb; clear hb
            go_wp2_with (go_at_call 80; refine (operand_0 _ _ _ _ _ _).mono ?_; rintro e w1 ⟨rfl, hb⟩; obtain ⟨hc, hf⟩ := bcell hb)
            go_roundw
            case rel => exact ⟨1, (by first | trivial | omega), (by first | trivial | rfl), (HBel.out.trans (hb.mono (by omega))), (by first | trivial | exact fun _ => E4.out | exact E4.out | omega), (by first | trivial | omega), (by first | trivial | omega)⟩
            case measure => simp [intOf]
          case true =>
            rw [hb] at e4; have E4 := Lib.hid hb; clear hb
            go_wp2_with (go_at_call 80; refine (operand_0 _ _ _ _ _ _).mono ?_; rintro e w1 ⟨rfl, hb⟩; obtain ⟨hc, hf⟩ := bcell hb)
            go_ret
            exact ⟨ret_int (by rw [HL.out, E4.out]; rfl), (below_then (HB0.out.trans (HBel.out.mono (by omega))) hb)⟩
      case inr.inl =>
        rcases B1.out with ⟨e1, e2, ⟨e3, e4⟩ | ⟨e3, e4⟩⟩ | ⟨e1, e2, e4⟩
        case inl.inl =>
          have E4 := Lib.hid e4; clear e4
          go_wp2_with (go_at_call 80; refine (operand_1 _ _ _ _ _ _).mono ?_; rintro e w1 ⟨rfl, hb⟩; obtain ⟨hc, hf⟩ := bcell hb)
          go_ret
          exact ⟨ret_int (by rw [HL.out, P0.out (by omega), E4.out]; rfl), (below_then (HB0.out.trans (HBel.out.mono (by omega))) hb)⟩
        case inl.inr =>
          cases hb : badO vars i q 1 x
          case false =>
            rw [hb] at e4; have E4 := Lib.hid hb; clear hb
            go_wp2_with (go_at_call 80; refine (operand_1 _ _ _ _ _ _).mono ?_; rintro e w1 ⟨rfl, hb⟩; obtain ⟨hc, hf⟩ := bcell hb)
            go_roundw
            case rel => exact ⟨2, (by first | trivial | omega), (by first | trivial | rfl), (HBel.out.trans (hb.mono (by omega))), (by first | trivial | exact fun _ => P0.out (by omega) | exact P0.out (by omega) | omega), (by first | trivial | exact fun _ => E4.out | exact E4.out | omega), (by first | trivial | omega)⟩
            case measure => simp [intOf]
          case true =>
            rw [hb] at e4; have E4 := Lib.hid hb; clear hb
            go_wp2_with (go_at_call 80; refine (operand_1 _ _ _ _ _ _).mono ?_; rintro e w1 ⟨rfl, hb⟩; obtain ⟨hc, hf⟩ := bcell hb)
            go_ret
            exact ⟨ret_int (by rw [HL.out, P0.out (by omega), E4.out]; rfl), (below_then (HB0.out.trans (HBel.out.mono (by omega))) hb)⟩
        case inr =>
          cases hb : badO vars i q 1 x
          case false =>
            rw [hb] at e4; have E4 := Lib.hid hb; clear hb
            go_wp2_with (go_at_call 80; refine (operand_1 _ _ _ _ _ _).mono ?_; rintro e w1 ⟨rfl, hb⟩; obtain ⟨hc, hf⟩ := bcell hb)
            go_roundw
            case rel => exact ⟨2, (by first | trivial | omega), (by first | trivial | rfl), (HBel.out.trans (hb.mono (by omega))), (by first | trivial | exact fun _ => P0.out (by omega) | exact P0.out (by omega) | omega), (by first | trivial | exact fun _ => E4.out | exact E4.out | omega), (by first | trivial | omega)⟩
            case measure => simp [intOf]
          case true =>
            rw [hb] at e4; have E4 := Lib.hid hb; clear hb
            go_wp2_with (go_at_call 80; refine (operand_1 _ _ _ _ _ _).mono ?_; rintro e w1 ⟨rfl, hb⟩; obtain ⟨hc, hf⟩ := bcell hb)
            go_ret
            exact ⟨ret_int (by rw [HL.out, P0.out (by omega), E4.out]; rfl), (below_then (HB0.out.trans (HBel.out.mono (by omega))) hb)⟩
      case inr.inr.inl =>
        rcases B2.out with ⟨e1, e2, ⟨e3, e4⟩ | ⟨e3, e4⟩⟩ | ⟨e1, e2, e4⟩
        case inl.inl =>
          have E4 := Lib.hid e4; clear e4
          go_wp2_with (go_at_call 80; refine (operand_2 _ _ _ _ _ _).mono ?_; rintro e w1 ⟨rfl, hb⟩; obtain ⟨hc, hf⟩ := bcell hb)
          go_ret
          exact ⟨ret_int (by rw [HL.out, P0.out (by omega), P1.out (by omega), E4.out]; rfl), (below_then (HB0.out.trans (HBel.out.mono (by omega))) hb)⟩
        case inl.inr =>
          cases hb : badO vars i q 2 c
          case false =>
            rw [hb] at e4; have E4 := Lib.hid hb; clear hb
            go_wp2_with (go_at_call 80; refine (operand_2 _ _ _ _ _ _).mono ?_; rintro e w1 ⟨rfl, hb⟩; obtain ⟨hc, hf⟩ := bcell hb)
            go_roundw
            case rel => exact ⟨3, (by first | trivial | omega), (by first | trivial | rfl), (HBel.out.trans (hb.mono (by omega))), (by first | trivial | exact fun _ => P0.out (by omega) | exact P0.out (by omega) | omega), (by first | trivial | exact fun _ => P1.out (by omega) | exact P1.out (by omega) | omega), (by first | trivial | exact fun _ => E4.out | exact E4.out | omega)⟩
            case measure => simp [intOf]
          case true =>
            rw [hb] at e4; have E4 := Lib.hid hb; clear hb
            go_wp2_with (go_at_call 80; refine (operand_2 _ _ _ _ _ _).mono ?_; rintro e w1 ⟨rfl, hb⟩; obtain ⟨hc, hf⟩ := bcell hb)
            go_ret
            exact ⟨ret_int (by rw [HL.out, P0.out (by omega), P1.out (by omega), E4.out]; rfl), (below_then (HB0.out.trans (HBel.out.mono (by omega))) hb)⟩
        case inr =>
          cases hb : badO vars i q 2 c
          case false =>
            rw [hb] at e4; have E4 := Lib.hid hb; clear hb
            go_wp2_with (go_at_call 80; refine (operand_2 _ _ _ _ _ _).mono ?_; rintro e w1 ⟨rfl, hb⟩; obtain ⟨hc, hf⟩ := bcell hb)
            go_roundw
            case rel => exact ⟨3, (by first | trivial | omega), (by first | trivial | rfl), (HBel.out.trans (hb.mono (by omega))), (by first | trivial | exact fun _ => P0.out (by omega) | exact P0.out (by omega) | omega), (by first | trivial | exact fun _ => P1.out (by omega) | exact P1.out (by omega) | omega), (by first | trivial | exact fun _ => E4.out | exact E4.out | omega)⟩
            case measure => simp [intOf]
          case true =>
            rw [hb] at e4; have E4 := Lib.hid hb; clear hb
            go_wp2_with (go_at_call 80; refine (operand_2 _ _ _ _ _ _).mono ?_; rintro e w1 ⟨rfl, hb⟩; obtain ⟨hc, hf⟩ := bcell hb)
            go_ret
            exact ⟨ret_int (by rw [HL.out, P0.out (by omega), P1.out (by omega), E4.out]; rfl), (below_then (HB0.out.trans (HBel.out.mono (by omega))) hb)⟩
      case inr.inr.inr =>
        have HT : Hid (lineE vars n i op a x c N = tailE n op N) := Lib.hid (by rw [HL.out, P0.out (by omega), P1.out (by omega), P2.out (by omega)]; rfl)
        have g1 : (op != 1) = !(op == 1) := rfl
        have g2 : (op != 12) = !(op == 12) := rfl
        cases h1 : (op == 1)
        case true =>
          have g3 : (op == 12) = false := by simp at h1; subst h1; rfl
          rw [h1] at g1; rw [g3] at g2
          cases h2 : decide (N < 0)
          case true =>
            go_wp2
            go_ret
            exact ⟨ret_int (by rw [HT.out]; unfold tailE; rw [h1, h2]; rfl), (HB0.out.trans (HBel.out.mono (by omega)))⟩
          case false =>
            cases h3 : decide ((n : Int) ≤ N)
            all_goals
              go_wp2
              go_ret
              exact ⟨ret_int (by rw [HT.out]; unfold tailE; rw [h1, h2, h3]; rfl), (HB0.out.trans (HBel.out.mono (by omega)))⟩
        case false =>
          rw [h1] at g1
          cases h2 : (op == 12)
          case true =>
            rw [h2] at g2
            cases h3 : decide (N < -1024)
            case true =>
              go_wp2
              go_ret
              exact ⟨ret_int (by rw [HT.out]; unfold tailE; rw [h1, h2, h3]; rfl), (HB0.out.trans (HBel.out.mono (by omega)))⟩
            case false =>
              cases h4 : decide (1024 < N)
              all_goals
                go_wp2
                go_ret
                exact ⟨ret_int (by rw [HT.out]; unfold tailE; rw [h1, h2, h3, h4]; rfl), (HB0.out.trans (HBel.out.mono (by omega)))⟩
          case false =>
            rw [h2] at g2
            cases h3 : (N != 0)
            all_goals
              go_wp2
              go_ret
              exact ⟨ret_int (by rw [HT.out]; unfold tailE; rw [h1, h2, h3]; rfl), (HB0.out.trans (HBel.out.mono (by omega)))⟩

theorem line16_any (vars : Int) (A1 A2 : Option Addr) (n cp1 m cp2 : Nat) (C : Nat → Nat → Int) (i : Nat) (hv : 0 ≤ vars) (hv2 : vars ≤ 32) (hi2 : i ≤ 1024) (him : i < m) (w : World) (hr : RowN w w.heap.size 5 A2 m (fI C)) :
    Calls Try.prog 66 #[.agg #[.int .i64 vars, .slice A1 n cp1, .slice A2 m cp2], .int .i64 (i : Int)] w
      fun e w' => e = .returned (.int .i64 (lineE vars n i (C i 0) (C i 1) (C i 2) (C i 3) (C i 4))) ∧ Below w.heap.size w w' := by
  obtain ⟨b, off, rfl, hbB, hcell⟩ := hr (by omega)
  have d : ∀ j, j < 5 → w.cell? ⟨b, off + i * 5 + j, none⟩ = some (.int .i64 (C i j)) := fun j hj => hcell i him j hj
  exact line16_aux vars A1 b off n cp1 m cp2 _ _ _ _ _ i hv hv2 hi2 him w hbB (d 0 (by omega)) (d 1 (by omega)) (d 2 (by omega)) (d 3 (by omega)) (d 4 (by omega))

end Go.Proofs.Ytamaeggkpdgaiaa
