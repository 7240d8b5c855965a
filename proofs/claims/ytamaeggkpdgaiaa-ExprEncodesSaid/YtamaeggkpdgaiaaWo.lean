/- The walks of the counts of operands. -/
import Derived.Test.YtamaeggkpdgaiaaWa
namespace Go.Proofs.Ytamaeggkpdgaiaa
open Go.RowKit

/-- How many operands an operation has; -1: it is none. -/
def opsN (op : Int) : Int :=
  bif (op == 1) then 0 else bif (op == 4) then 2 else bif (op == 5) then 2 else bif (op == 6) then 2 else bif (op == 7) then 2 else bif (op == 14) then 2 else bif (op == 15) then 2 else
  bif (op == 11) then 3 else bif decide (op < 1) then -1 else bif decide (21 < op) then -1 else 1
def countN (op : Int) : Int :=
  bif (op == 4) then 2 else bif (op == 5) then 2 else bif (op == 6) then 2 else bif (op == 7) then 2 else bif (op == 14) then 2 else bif (op == 15) then 2 else
  bif (op == 11) then 3 else bif decide (2 ≤ op) then (bif decide (op ≤ 21) then 1 else 0) else 0
theorem opsN_count (op : Int) : opsN op = bif (op == 1) then 0 else bif (countN op == 0) then -1 else countN op := by
  unfold opsN countN
  simp only [cond_eq_ite, decide_eq_true_eq, beq_iff_eq]
  repeat' split
  all_goals omega

set_option maxRecDepth 100000 in
set_option maxHeartbeats 400000 in
theorem operands_any (op : Int) (w : World) :
    Calls Try.prog 76 #[.int .i64 op] w fun e w' => e = .returned (.int .i64 (opsN op)) ∧ w = w' := by
  cases h1e : (op == 1)
  case false =>
    cases h4e : (op == 4)
    case false =>
      cases h5e : (op == 5)
      case false =>
        cases h6e : (op == 6)
        case false =>
          cases h7e : (op == 7)
          case false =>
            cases h14e : (op == 14)
            case false =>
              cases h15e : (op == 15)
              case false =>
                cases h11e : (op == 11)
                case false =>
                  cases hae : decide (op < 1)
                  case false =>
                    cases hbe : decide (21 < op)
                    case false =>
                      have H1 := Lib.hid h1e
                      have H4 := Lib.hid h4e
                      have H5 := Lib.hid h5e
                      have H6 := Lib.hid h6e
                      have H7 := Lib.hid h7e
                      have H14 := Lib.hid h14e
                      have H15 := Lib.hid h15e
                      have H11 := Lib.hid h11e
                      have Ha := Lib.hid hae
                      have Hb := Lib.hid hbe
                      go_enter Try.func76, Try.ntmps76
                      go_wp2
                      all_goals
                        go_ret
                        exact ⟨ret_int (by unfold opsN; simp only [H1.out, H4.out, H5.out, H6.out, H7.out, H14.out, H15.out, H11.out, Ha.out, Hb.out]; rfl), rfl⟩
                    case true =>
                      have H1 := Lib.hid h1e
                      have H4 := Lib.hid h4e
                      have H5 := Lib.hid h5e
                      have H6 := Lib.hid h6e
                      have H7 := Lib.hid h7e
                      have H14 := Lib.hid h14e
                      have H15 := Lib.hid h15e
                      have H11 := Lib.hid h11e
                      have Ha := Lib.hid hae
                      have Hb := Lib.hid hbe
                      go_enter Try.func76, Try.ntmps76
                      go_wp2
                      all_goals
                        go_ret
                        exact ⟨ret_int (by unfold opsN; simp only [H1.out, H4.out, H5.out, H6.out, H7.out, H14.out, H15.out, H11.out, Ha.out, Hb.out]; rfl), rfl⟩
                  case true =>
                    have H1 := Lib.hid h1e
                    have H4 := Lib.hid h4e
                    have H5 := Lib.hid h5e
                    have H6 := Lib.hid h6e
                    have H7 := Lib.hid h7e
                    have H14 := Lib.hid h14e
                    have H15 := Lib.hid h15e
                    have H11 := Lib.hid h11e
                    have Ha := Lib.hid hae
                    go_enter Try.func76, Try.ntmps76
                    go_wp2
                    all_goals
                      go_ret
                      exact ⟨ret_int (by unfold opsN; simp only [H1.out, H4.out, H5.out, H6.out, H7.out, H14.out, H15.out, H11.out, Ha.out]; rfl), rfl⟩
                case true =>
                  have H1 := Lib.hid h1e
                  have H4 := Lib.hid h4e
                  have H5 := Lib.hid h5e
                  have H6 := Lib.hid h6e
                  have H7 := Lib.hid h7e
                  have H14 := Lib.hid h14e
                  have H15 := Lib.hid h15e
                  have H11 := Lib.hid h11e
                  go_enter Try.func76, Try.ntmps76
                  go_wp2
                  all_goals
                    go_ret
                    exact ⟨ret_int (by unfold opsN; simp only [H1.out, H4.out, H5.out, H6.out, H7.out, H14.out, H15.out, H11.out]; rfl), rfl⟩
              case true =>
                have H1 := Lib.hid h1e
                have H4 := Lib.hid h4e
                have H5 := Lib.hid h5e
                have H6 := Lib.hid h6e
                have H7 := Lib.hid h7e
                have H14 := Lib.hid h14e
                have H15 := Lib.hid h15e
                go_enter Try.func76, Try.ntmps76
                go_wp2
                all_goals
                  go_ret
                  exact ⟨ret_int (by unfold opsN; simp only [H1.out, H4.out, H5.out, H6.out, H7.out, H14.out, H15.out]; rfl), rfl⟩
            case true =>
              have H1 := Lib.hid h1e
              have H4 := Lib.hid h4e
              have H5 := Lib.hid h5e
              have H6 := Lib.hid h6e
              have H7 := Lib.hid h7e
              have H14 := Lib.hid h14e
              go_enter Try.func76, Try.ntmps76
              go_wp2
              all_goals
                go_ret
                exact ⟨ret_int (by unfold opsN; simp only [H1.out, H4.out, H5.out, H6.out, H7.out, H14.out]; rfl), rfl⟩
          case true =>
            have H1 := Lib.hid h1e
            have H4 := Lib.hid h4e
            have H5 := Lib.hid h5e
            have H6 := Lib.hid h6e
            have H7 := Lib.hid h7e
            go_enter Try.func76, Try.ntmps76
            go_wp2
            all_goals
              go_ret
              exact ⟨ret_int (by unfold opsN; simp only [H1.out, H4.out, H5.out, H6.out, H7.out]; rfl), rfl⟩
        case true =>
          have H1 := Lib.hid h1e
          have H4 := Lib.hid h4e
          have H5 := Lib.hid h5e
          have H6 := Lib.hid h6e
          go_enter Try.func76, Try.ntmps76
          go_wp2
          all_goals
            go_ret
            exact ⟨ret_int (by unfold opsN; simp only [H1.out, H4.out, H5.out, H6.out]; rfl), rfl⟩
      case true =>
        have H1 := Lib.hid h1e
        have H4 := Lib.hid h4e
        have H5 := Lib.hid h5e
        go_enter Try.func76, Try.ntmps76
        go_wp2
        all_goals
          go_ret
          exact ⟨ret_int (by unfold opsN; simp only [H1.out, H4.out, H5.out]; rfl), rfl⟩
    case true =>
      have H1 := Lib.hid h1e
      have H4 := Lib.hid h4e
      go_enter Try.func76, Try.ntmps76
      go_wp2
      all_goals
        go_ret
        exact ⟨ret_int (by unfold opsN; simp only [H1.out, H4.out]; rfl), rfl⟩
  case true =>
    have H1 := Lib.hid h1e
    go_enter Try.func76, Try.ntmps76
    go_wp2
    all_goals
      go_ret
      exact ⟨ret_int (by unfold opsN; simp only [H1.out]; rfl), rfl⟩

set_option maxRecDepth 100000 in
set_option maxHeartbeats 400000 in
theorem count_any (op : Int) (w : World) :
    Calls Try.prog 119 #[.int .i64 op] w fun e w' => e = .returned (.int .i64 (countN op)) ∧ w = w' := by
  cases h4e : (op == 4)
  case false =>
    cases h5e : (op == 5)
    case false =>
      cases h6e : (op == 6)
      case false =>
        cases h7e : (op == 7)
        case false =>
          cases h14e : (op == 14)
          case false =>
            cases h15e : (op == 15)
            case false =>
              cases h11e : (op == 11)
              case false =>
                cases hae : decide (2 ≤ op)
                case false =>
                  have H4 := Lib.hid h4e
                  have H5 := Lib.hid h5e
                  have H6 := Lib.hid h6e
                  have H7 := Lib.hid h7e
                  have H14 := Lib.hid h14e
                  have H15 := Lib.hid h15e
                  have H11 := Lib.hid h11e
                  have Ha := Lib.hid hae
                  go_enter Try.func119, Try.ntmps119
                  go_wp2
                  all_goals
                    go_ret
                    exact ⟨ret_int (by unfold countN; simp only [H4.out, H5.out, H6.out, H7.out, H14.out, H15.out, H11.out, Ha.out]; rfl), rfl⟩
                case true =>
                  cases hbe : decide (op ≤ 21)
                  case false =>
                    have H4 := Lib.hid h4e
                    have H5 := Lib.hid h5e
                    have H6 := Lib.hid h6e
                    have H7 := Lib.hid h7e
                    have H14 := Lib.hid h14e
                    have H15 := Lib.hid h15e
                    have H11 := Lib.hid h11e
                    have Ha := Lib.hid hae
                    have Hb := Lib.hid hbe
                    go_enter Try.func119, Try.ntmps119
                    go_wp2
                    all_goals
                      go_ret
                      exact ⟨ret_int (by unfold countN; simp only [H4.out, H5.out, H6.out, H7.out, H14.out, H15.out, H11.out, Ha.out, Hb.out]; rfl), rfl⟩
                  case true =>
                    have H4 := Lib.hid h4e
                    have H5 := Lib.hid h5e
                    have H6 := Lib.hid h6e
                    have H7 := Lib.hid h7e
                    have H14 := Lib.hid h14e
                    have H15 := Lib.hid h15e
                    have H11 := Lib.hid h11e
                    have Ha := Lib.hid hae
                    have Hb := Lib.hid hbe
                    go_enter Try.func119, Try.ntmps119
                    go_wp2
                    all_goals
                      go_ret
                      exact ⟨ret_int (by unfold countN; simp only [H4.out, H5.out, H6.out, H7.out, H14.out, H15.out, H11.out, Ha.out, Hb.out]; rfl), rfl⟩
              case true =>
                have H4 := Lib.hid h4e
                have H5 := Lib.hid h5e
                have H6 := Lib.hid h6e
                have H7 := Lib.hid h7e
                have H14 := Lib.hid h14e
                have H15 := Lib.hid h15e
                have H11 := Lib.hid h11e
                go_enter Try.func119, Try.ntmps119
                go_wp2
                all_goals
                  go_ret
                  exact ⟨ret_int (by unfold countN; simp only [H4.out, H5.out, H6.out, H7.out, H14.out, H15.out, H11.out]; rfl), rfl⟩
            case true =>
              have H4 := Lib.hid h4e
              have H5 := Lib.hid h5e
              have H6 := Lib.hid h6e
              have H7 := Lib.hid h7e
              have H14 := Lib.hid h14e
              have H15 := Lib.hid h15e
              go_enter Try.func119, Try.ntmps119
              go_wp2
              all_goals
                go_ret
                exact ⟨ret_int (by unfold countN; simp only [H4.out, H5.out, H6.out, H7.out, H14.out, H15.out]; rfl), rfl⟩
          case true =>
            have H4 := Lib.hid h4e
            have H5 := Lib.hid h5e
            have H6 := Lib.hid h6e
            have H7 := Lib.hid h7e
            have H14 := Lib.hid h14e
            go_enter Try.func119, Try.ntmps119
            go_wp2
            all_goals
              go_ret
              exact ⟨ret_int (by unfold countN; simp only [H4.out, H5.out, H6.out, H7.out, H14.out]; rfl), rfl⟩
        case true =>
          have H4 := Lib.hid h4e
          have H5 := Lib.hid h5e
          have H6 := Lib.hid h6e
          have H7 := Lib.hid h7e
          go_enter Try.func119, Try.ntmps119
          go_wp2
          all_goals
            go_ret
            exact ⟨ret_int (by unfold countN; simp only [H4.out, H5.out, H6.out, H7.out]; rfl), rfl⟩
      case true =>
        have H4 := Lib.hid h4e
        have H5 := Lib.hid h5e
        have H6 := Lib.hid h6e
        go_enter Try.func119, Try.ntmps119
        go_wp2
        all_goals
          go_ret
          exact ⟨ret_int (by unfold countN; simp only [H4.out, H5.out, H6.out]; rfl), rfl⟩
    case true =>
      have H4 := Lib.hid h4e
      have H5 := Lib.hid h5e
      go_enter Try.func119, Try.ntmps119
      go_wp2
      all_goals
        go_ret
        exact ⟨ret_int (by unfold countN; simp only [H4.out, H5.out]; rfl), rfl⟩
  case true =>
    have H4 := Lib.hid h4e
    go_enter Try.func119, Try.ntmps119
    go_wp2
    all_goals
      go_ret
      exact ⟨ret_int (by unfold countN; simp only [H4.out]; rfl), rfl⟩

set_option maxRecDepth 100000 in
set_option maxHeartbeats 400000 in
theorem operands16_any (op : Int) (w : World) :
    Calls Try.prog 79 #[.int .i64 op] w fun e w' => e = .returned (.int .i64 (opsN op)) ∧ w = w' := by
  cases h1e : (op == 1)
  case false =>
    cases hce : (countN op == 0)
    case false =>
      have H1 := Lib.hid h1e
      have Hc := Lib.hid hce
      go_enter Try.func79, Try.ntmps79
      go_wp2_with ((go_at_call 119; refine (count_any _ _).mono ?_; rintro e w' ⟨rfl, rfl⟩; (try first | rw [H1.out] | rw [Hc.out])))
      all_goals
        go_ret
        exact ⟨ret_int (by rw [opsN_count]; simp only [H1.out, Hc.out]; rfl), rfl⟩
    case true =>
      have H1 := Lib.hid h1e
      have Hc := Lib.hid hce
      go_enter Try.func79, Try.ntmps79
      go_wp2_with ((go_at_call 119; refine (count_any _ _).mono ?_; rintro e w' ⟨rfl, rfl⟩; (try first | rw [H1.out] | rw [Hc.out])))
      all_goals
        go_ret
        exact ⟨ret_int (by rw [opsN_count]; simp only [H1.out, Hc.out]; rfl), rfl⟩
  case true =>
    have H1 := Lib.hid h1e
    go_enter Try.func79, Try.ntmps79
    go_wp2_with ((go_at_call 119; refine (count_any _ _).mono ?_; rintro e w' ⟨rfl, rfl⟩; (try first | rw [H1.out])))
    all_goals
      go_ret
      exact ⟨ret_int (by rw [opsN_count]; simp only [H1.out]; rfl), rfl⟩

end Go.Proofs.Ytamaeggkpdgaiaa
