/- The walk of the program's check of a line. -/
import Derived.Test.YtamaeggkpdgaiaaWo
import Derived.Test.YtamaeggkpdgaiaaWp
namespace Go.Proofs.Ytamaeggkpdgaiaa
open Go.RowKit

/-- Is the operand number k of a line with n wrong? -/
def badO (vars i n k x : Int) : Bool := bif decide (k < n) then (bif decide (x < 0) then true else decide (vars + i ≤ x)) else (x != 0)
/-- What is wrong with a line. -/
def tailE (nc op N : Int) : Int :=
  bif (op == 1) then (bif decide (N < 0) then 164 else bif decide (nc ≤ N) then 164 else 0) else
  bif (op == 12) then (bif decide (N < -1024) then 165 else bif decide (1024 < N) then 165 else 0) else
  bif (N != 0) then 164 else 0
def lineE (vars nc i op a b c N : Int) : Int :=
  bif decide (opsN op < 0) then 163 else
  bif badO vars i (opsN op) 0 a then 164 else bif badO vars i (opsN op) 1 b then 164 else bif badO vars i (opsN op) 2 c then 164 else tailE nc op N

/-- The tests of an operand. -/
theorem badO_cases (vars i n k x : Int) : (decide (k < n) = true ∧ decide (n ≤ k) = false ∧
      ((decide (x < 0) = true ∧ badO vars i n k x = true) ∨ (decide (x < 0) = false ∧ decide (vars + i ≤ x) = badO vars i n k x))) ∨
    (decide (k < n) = false ∧ decide (n ≤ k) = true ∧ (x != 0) = badO vars i n k x) := by
  unfold badO
  cases h1 : decide (k < n)
  · right; refine ⟨rfl, by simp at *; omega, rfl⟩
  · left
    refine ⟨rfl, by simp at *; omega, ?_⟩
    cases h2 : decide (x < 0)
    · right; exact ⟨rfl, rfl⟩
    · left; exact ⟨rfl, rfl⟩

set_option maxRecDepth 100000 in
set_option maxHeartbeats 2000000 in
theorem checkLine_any (vars : Int) (A1 A2 : Option Addr) (n cp1 m cp2 : Nat) (i op a b c N : Int) (hv : 0 ≤ vars) (hv2 : vars ≤ 32) (hi : 0 ≤ i) (hi2 : i ≤ 1024) (w : World) :
    Calls Try.prog 63 #[.agg #[.int .i64 vars, .slice A1 n cp1, .slice A2 m cp2], .int .i64 i, .agg #[.int .i64 op, .int .i64 a, .int .i64 b, .int .i64 c, .int .i64 N]] w
      fun e w' => e = .returned (.int .i64 (lineE vars n i op a b c N)) ∧ Below w.heap.size w w' := by
  have i0 : ∀ w : World, (Instr.index 145 (.agg #[.int .i64 a, .int .i64 b, .int .i64 c]) (.int .i64 0)).run Try.prog w = .ok (.int .i64 a) w := fun _ => by kernel_rfl
  have i1 : ∀ w : World, (Instr.index 145 (.agg #[.int .i64 a, .int .i64 b, .int .i64 c]) (.int .i64 1)).run Try.prog w = .ok (.int .i64 b) w := fun _ => by kernel_rfl
  have i2 : ∀ w : World, (Instr.index 145 (.agg #[.int .i64 a, .int .i64 b, .int .i64 c]) (.int .i64 2)).run Try.prog w = .ok (.int .i64 c) w := fun _ => by kernel_rfl
  have hwr : wrap64 (vars + i) = vars + i := by unfold wrap64; omega
  cases hn : decide (opsN op < 0)
  case true =>
    have HN := Lib.hid hn
    go_enter Try.func63, Try.ntmps63
    go_wp2_with (go_at_call 76; refine (operands_any _ _).mono ?_; rintro e w' ⟨rfl, rfl⟩)
    go_ret
    exact ⟨ret_int (by unfold lineE; rw [HN.out]; rfl), (by repeat (first | exact Below.refl _ _ | (refine Below.alloc ?_ (by first | exact Nat.le_refl _ | omega | (simp; done) | (simp; omega)) _) | refine Below.drew ?_ | refine below_drewN ?_ _ | (refine Below.setCell ?_ (by first | exact Nat.le_refl _ | omega | (simp; done) | (simp; omega)) _) | refine below_then ?_ (by assumption)))⟩
  case false =>
    have HN := Lib.hid hn
    have HL : Hid (lineE vars n i op a b c N = bif badO vars i (opsN op) 0 a then 164 else bif badO vars i (opsN op) 1 b then 164 else bif badO vars i (opsN op) 2 c then 164 else tailE n op N) := Lib.hid (by unfold lineE; rw [HN.out]; rfl)
    have B0 := Lib.hid (badO_cases vars i (opsN op) 0 a); have B1 := Lib.hid (badO_cases vars i (opsN op) 1 b); have B2 := Lib.hid (badO_cases vars i (opsN op) 2 c)
    go_enter Try.func63, Try.ntmps63
    go_wp2_with (go_at_call 76; refine (operands_any _ _).mono ?_; rintro e w' ⟨rfl, rfl⟩)
    go_loopw [22] (fun v wr => ∃ k : Nat, k ≤ 3 ∧ v = .int .i64 k ∧ wr = (w.alloc (.cells #[.int .i64 vars, .slice A1 n cp1, .slice A2 m cp2] 67)).alloc (.cells #[.int .i64 op, .int .i64 a, .int .i64 b, .int .i64 c, .int .i64 N] 117) ∧
      (1 ≤ k → badO vars i (opsN op) 0 a = false) ∧ (2 ≤ k → badO vars i (opsN op) 1 b = false) ∧ (3 ≤ k → badO vars i (opsN op) 2 c = false)) (fun v _ => 3 - (intOf v).toNat)
    case atStart => exact ⟨0, by omega, rfl, rfl, by omega, by omega, by omega⟩
    case round =>
      obtain ⟨k, hk, rfl, rfl, p0, p1, p2⟩ := hrel
      have P0 := Lib.hid p0; have P1 := Lib.hid p1; have P2 := Lib.hid p2; clear p0 p1 p2
      generalize opsN op = q at *
      rcases (show k = 0 ∨ k = 1 ∨ k = 2 ∨ k = 3 by omega) with rfl | rfl | rfl | rfl
      case inl =>
        rcases B0.out with ⟨e1, e2, ⟨e3, e4⟩ | ⟨e3, e4⟩⟩ | ⟨e1, e2, e4⟩
        case inl.inl =>
          have E4 := Lib.hid e4; clear e4
          go_wp2
          go_ret
          exact ⟨ret_int (by rw [HL.out, E4.out]; rfl), (by repeat (first | exact Below.refl _ _ | (refine Below.alloc ?_ (by first | exact Nat.le_refl _ | omega | (simp; done) | (simp; omega)) _) | refine Below.drew ?_ | refine below_drewN ?_ _ | (refine Below.setCell ?_ (by first | exact Nat.le_refl _ | omega | (simp; done) | (simp; omega)) _) | refine below_then ?_ (by assumption)))⟩
        case inl.inr =>
          cases hb : badO vars i q 0 a
          case false =>
            rw [hb] at e4; have E4 := Lib.hid hb; clear hb
            go_wp2
            go_roundw
            case rel => exact ⟨1, (by first | trivial | omega), (by first | trivial | rfl), (by first | trivial | rfl), (by first | trivial | exact fun _ => E4.out | exact E4.out | omega), (by first | trivial | omega), (by first | trivial | omega)⟩
            case measure => simp [intOf]
          case true =>
            rw [hb] at e4; have E4 := Lib.hid hb; clear hb
            go_wp2
            go_ret
            exact ⟨ret_int (by rw [HL.out, E4.out]; rfl), (by repeat (first | exact Below.refl _ _ | (refine Below.alloc ?_ (by first | exact Nat.le_refl _ | omega | (simp; done) | (simp; omega)) _) | refine Below.drew ?_ | refine below_drewN ?_ _ | (refine Below.setCell ?_ (by first | exact Nat.le_refl _ | omega | (simp; done) | (simp; omega)) _) | refine below_then ?_ (by assumption)))⟩
        case inr =>
          cases hb : badO vars i q 0 a
          case false =>
            rw [hb] at e4; have E4 := Lib.hid hb; clear hb
            go_wp2
            go_roundw
            case rel => exact ⟨1, (by first | trivial | omega), (by first | trivial | rfl), (by first | trivial | rfl), (by first | trivial | exact fun _ => E4.out | exact E4.out | omega), (by first | trivial | omega), (by first | trivial | omega)⟩
            case measure => simp [intOf]
          case true =>
            rw [hb] at e4; have E4 := Lib.hid hb; clear hb
            go_wp2
            go_ret
            exact ⟨ret_int (by rw [HL.out, E4.out]; rfl), (by repeat (first | exact Below.refl _ _ | (refine Below.alloc ?_ (by first | exact Nat.le_refl _ | omega | (simp; done) | (simp; omega)) _) | refine Below.drew ?_ | refine below_drewN ?_ _ | (refine Below.setCell ?_ (by first | exact Nat.le_refl _ | omega | (simp; done) | (simp; omega)) _) | refine below_then ?_ (by assumption)))⟩
      case inr.inl =>
        rcases B1.out with ⟨e1, e2, ⟨e3, e4⟩ | ⟨e3, e4⟩⟩ | ⟨e1, e2, e4⟩
        case inl.inl =>
          have E4 := Lib.hid e4; clear e4
          go_wp2
          go_ret
          exact ⟨ret_int (by rw [HL.out, P0.out (by omega), E4.out]; rfl), (by repeat (first | exact Below.refl _ _ | (refine Below.alloc ?_ (by first | exact Nat.le_refl _ | omega | (simp; done) | (simp; omega)) _) | refine Below.drew ?_ | refine below_drewN ?_ _ | (refine Below.setCell ?_ (by first | exact Nat.le_refl _ | omega | (simp; done) | (simp; omega)) _) | refine below_then ?_ (by assumption)))⟩
        case inl.inr =>
          cases hb : badO vars i q 1 b
          case false =>
            rw [hb] at e4; have E4 := Lib.hid hb; clear hb
            go_wp2
            go_roundw
            case rel => exact ⟨2, (by first | trivial | omega), (by first | trivial | rfl), (by first | trivial | rfl), (by first | trivial | exact fun _ => P0.out (by omega) | exact P0.out (by omega) | omega), (by first | trivial | exact fun _ => E4.out | exact E4.out | omega), (by first | trivial | omega)⟩
            case measure => simp [intOf]
          case true =>
            rw [hb] at e4; have E4 := Lib.hid hb; clear hb
            go_wp2
            go_ret
            exact ⟨ret_int (by rw [HL.out, P0.out (by omega), E4.out]; rfl), (by repeat (first | exact Below.refl _ _ | (refine Below.alloc ?_ (by first | exact Nat.le_refl _ | omega | (simp; done) | (simp; omega)) _) | refine Below.drew ?_ | refine below_drewN ?_ _ | (refine Below.setCell ?_ (by first | exact Nat.le_refl _ | omega | (simp; done) | (simp; omega)) _) | refine below_then ?_ (by assumption)))⟩
        case inr =>
          cases hb : badO vars i q 1 b
          case false =>
            rw [hb] at e4; have E4 := Lib.hid hb; clear hb
            go_wp2
            go_roundw
            case rel => exact ⟨2, (by first | trivial | omega), (by first | trivial | rfl), (by first | trivial | rfl), (by first | trivial | exact fun _ => P0.out (by omega) | exact P0.out (by omega) | omega), (by first | trivial | exact fun _ => E4.out | exact E4.out | omega), (by first | trivial | omega)⟩
            case measure => simp [intOf]
          case true =>
            rw [hb] at e4; have E4 := Lib.hid hb; clear hb
            go_wp2
            go_ret
            exact ⟨ret_int (by rw [HL.out, P0.out (by omega), E4.out]; rfl), (by repeat (first | exact Below.refl _ _ | (refine Below.alloc ?_ (by first | exact Nat.le_refl _ | omega | (simp; done) | (simp; omega)) _) | refine Below.drew ?_ | refine below_drewN ?_ _ | (refine Below.setCell ?_ (by first | exact Nat.le_refl _ | omega | (simp; done) | (simp; omega)) _) | refine below_then ?_ (by assumption)))⟩
      case inr.inr.inl =>
        rcases B2.out with ⟨e1, e2, ⟨e3, e4⟩ | ⟨e3, e4⟩⟩ | ⟨e1, e2, e4⟩
        case inl.inl =>
          have E4 := Lib.hid e4; clear e4
          go_wp2
          go_ret
          exact ⟨ret_int (by rw [HL.out, P0.out (by omega), P1.out (by omega), E4.out]; rfl), (by repeat (first | exact Below.refl _ _ | (refine Below.alloc ?_ (by first | exact Nat.le_refl _ | omega | (simp; done) | (simp; omega)) _) | refine Below.drew ?_ | refine below_drewN ?_ _ | (refine Below.setCell ?_ (by first | exact Nat.le_refl _ | omega | (simp; done) | (simp; omega)) _) | refine below_then ?_ (by assumption)))⟩
        case inl.inr =>
          cases hb : badO vars i q 2 c
          case false =>
            rw [hb] at e4; have E4 := Lib.hid hb; clear hb
            go_wp2
            go_roundw
            case rel => exact ⟨3, (by first | trivial | omega), (by first | trivial | rfl), (by first | trivial | rfl), (by first | trivial | exact fun _ => P0.out (by omega) | exact P0.out (by omega) | omega), (by first | trivial | exact fun _ => P1.out (by omega) | exact P1.out (by omega) | omega), (by first | trivial | exact fun _ => E4.out | exact E4.out | omega)⟩
            case measure => simp [intOf]
          case true =>
            rw [hb] at e4; have E4 := Lib.hid hb; clear hb
            go_wp2
            go_ret
            exact ⟨ret_int (by rw [HL.out, P0.out (by omega), P1.out (by omega), E4.out]; rfl), (by repeat (first | exact Below.refl _ _ | (refine Below.alloc ?_ (by first | exact Nat.le_refl _ | omega | (simp; done) | (simp; omega)) _) | refine Below.drew ?_ | refine below_drewN ?_ _ | (refine Below.setCell ?_ (by first | exact Nat.le_refl _ | omega | (simp; done) | (simp; omega)) _) | refine below_then ?_ (by assumption)))⟩
        case inr =>
          cases hb : badO vars i q 2 c
          case false =>
            rw [hb] at e4; have E4 := Lib.hid hb; clear hb
            go_wp2
            go_roundw
            case rel => exact ⟨3, (by first | trivial | omega), (by first | trivial | rfl), (by first | trivial | rfl), (by first | trivial | exact fun _ => P0.out (by omega) | exact P0.out (by omega) | omega), (by first | trivial | exact fun _ => P1.out (by omega) | exact P1.out (by omega) | omega), (by first | trivial | exact fun _ => E4.out | exact E4.out | omega)⟩
            case measure => simp [intOf]
          case true =>
            rw [hb] at e4; have E4 := Lib.hid hb; clear hb
            go_wp2
            go_ret
            exact ⟨ret_int (by rw [HL.out, P0.out (by omega), P1.out (by omega), E4.out]; rfl), (by repeat (first | exact Below.refl _ _ | (refine Below.alloc ?_ (by first | exact Nat.le_refl _ | omega | (simp; done) | (simp; omega)) _) | refine Below.drew ?_ | refine below_drewN ?_ _ | (refine Below.setCell ?_ (by first | exact Nat.le_refl _ | omega | (simp; done) | (simp; omega)) _) | refine below_then ?_ (by assumption)))⟩
      case inr.inr.inr =>
        have HT : Hid (lineE vars n i op a b c N = tailE n op N) := Lib.hid (by rw [HL.out, P0.out (by omega), P1.out (by omega), P2.out (by omega)]; rfl)
        cases h1 : (op == 1)
        case true =>
          cases h2 : decide (N < 0)
          case true =>
            go_wp2
            go_ret
            exact ⟨ret_int (by rw [HT.out]; unfold tailE; rw [h1, h2]; rfl), (by repeat (first | exact Below.refl _ _ | (refine Below.alloc ?_ (by first | exact Nat.le_refl _ | omega | (simp; done) | (simp; omega)) _) | refine Below.drew ?_ | refine below_drewN ?_ _ | (refine Below.setCell ?_ (by first | exact Nat.le_refl _ | omega | (simp; done) | (simp; omega)) _) | refine below_then ?_ (by assumption)))⟩
          case false =>
            cases h3 : decide ((n : Int) ≤ N)
            all_goals
              go_wp2
              go_ret
              exact ⟨ret_int (by rw [HT.out]; unfold tailE; rw [h1, h2, h3]; rfl), (by repeat (first | exact Below.refl _ _ | (refine Below.alloc ?_ (by first | exact Nat.le_refl _ | omega | (simp; done) | (simp; omega)) _) | refine Below.drew ?_ | refine below_drewN ?_ _ | (refine Below.setCell ?_ (by first | exact Nat.le_refl _ | omega | (simp; done) | (simp; omega)) _) | refine below_then ?_ (by assumption)))⟩
        case false =>
          cases h2 : (op == 12)
          case true =>
            cases h3 : decide (N < -1024)
            case true =>
              go_wp2
              go_ret
              exact ⟨ret_int (by rw [HT.out]; unfold tailE; rw [h1, h2, h3]; rfl), (by repeat (first | exact Below.refl _ _ | (refine Below.alloc ?_ (by first | exact Nat.le_refl _ | omega | (simp; done) | (simp; omega)) _) | refine Below.drew ?_ | refine below_drewN ?_ _ | (refine Below.setCell ?_ (by first | exact Nat.le_refl _ | omega | (simp; done) | (simp; omega)) _) | refine below_then ?_ (by assumption)))⟩
            case false =>
              cases h4 : decide (1024 < N)
              all_goals
                go_wp2
                go_ret
                exact ⟨ret_int (by rw [HT.out]; unfold tailE; rw [h1, h2, h3, h4]; rfl), (by repeat (first | exact Below.refl _ _ | (refine Below.alloc ?_ (by first | exact Nat.le_refl _ | omega | (simp; done) | (simp; omega)) _) | refine Below.drew ?_ | refine below_drewN ?_ _ | (refine Below.setCell ?_ (by first | exact Nat.le_refl _ | omega | (simp; done) | (simp; omega)) _) | refine below_then ?_ (by assumption)))⟩
          case false =>
            cases h3 : (N != 0)
            all_goals
              go_wp2
              go_ret
              exact ⟨ret_int (by rw [HT.out]; unfold tailE; rw [h1, h2, h3]; rfl), (by repeat (first | exact Below.refl _ _ | (refine Below.alloc ?_ (by first | exact Nat.le_refl _ | omega | (simp; done) | (simp; omega)) _) | refine Below.drew ?_ | refine below_drewN ?_ _ | (refine Below.setCell ?_ (by first | exact Nat.le_refl _ | omega | (simp; done) | (simp; omega)) _) | refine below_then ?_ (by assumption)))⟩

end Go.Proofs.Ytamaeggkpdgaiaa
