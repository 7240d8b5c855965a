/- The walk of the reference's making of a pattern. -/
import Derived.Test.YtamaeggkpdgaiaaWb
import Derived.Deep.QuietTactic
import Derived.BigQuiet
import Derived.Deep.DeepCutAuto
namespace Go.Proofs.Ytamaeggkpdgaiaa
open Go.RowKit

set_option maxRecDepth 100000 in
set_option maxHeartbeats 1000000 in
theorem made_zero (neg : Bool) (e : Int) (w : World) :
    Calls Try.prog 144 #[.bool neg, .int .u64 0, .int .i64 e] w fun en w' => en = .returned (.int .u64 0) ∧ w = w' := by
  go_enter Try.func144, Try.ntmps144
  go_wp2
  go_ret
  exact ⟨rfl, rfl⟩

set_option maxRecDepth 100000 in
set_option maxHeartbeats 1000000 in
theorem made_small (neg : Bool) (s : Nat) (e : Int) (hs0 : 0 < s) (hs : s < 9007199254740992) (he : -1074 ≤ e) (he2 : e ≤ 971) (w : World) :
    Calls Try.prog 144 #[.bool neg, .int .u64 (s : Int), .int .i64 e] w fun en w' => en = .returned (.int .u64 (madeD neg s e)) ∧ w = w' := by
  cases hev : ((s : Int) % 2 == 0)
  all_goals
    have h0 : ((s : Int) == 0) = false := by simp; omega
    have h1 : decide ((9007199254740992 : Int) ≤ (s : Int)) = false := by simp; omega
    have h2 : decide (e < -1074) = false := by simp; omega
    have hb : bits .and .u64 (s : Int) 1 = (s : Int) % 2 := by have := u64_and_nat s 1 (by omega) (by omega); rw [nat_mask1] at this; simpa using this
    go_enter Try.func144, Try.ntmps144
    go_wp2
    go_loop [1, 2] (fun a b => a = .int .u64 (s : Int) ∧ b = .int .i64 e) (fun _ _ => 0)
    case atStart => exact ⟨rfl, rfl⟩
    case round =>
      obtain ⟨rfl, rfl⟩ := hrel
      go_wp2
      go_loop [1, 2] (fun a b => ∃ k : Nat, s * 2 ^ k < 9007199254740992 ∧ (k : Int) ≤ e + 1074 ∧ a = .int .u64 ((s * 2 ^ k : Nat) : Int) ∧ b = .int .i64 (e - (k : Int))) (fun _ b => (intOf b + 1074).toNat)
      case atStart => exact ⟨0, by omega, by omega, by simp, by simp⟩
      case round =>
        obtain ⟨k, hk1, hk2, rfl, rfl⟩ := hrel
        generalize hg : s * 2 ^ k = g at *
        have HG := Lib.hid hg; clear hg
        clear hb hev h0 h1 h2
        cases hlt : decide ((g : Int) < 4503599627370496)
        case false =>
          have hge : decide ((4503599627370496 : Int) ≤ (g : Int)) = true := by have := of_decide_eq_false hlt; simp; omega
          have hge2 : (4503599627370496 : Int) ≤ (g : Int) := of_decide_eq_true hge
          have hfin : Hid (madeD neg s e = wordD neg (g + (e - (k : Int) + 1074).toNat * 4503599627370496)) := Lib.hid (madeD_eq HG.out hk2 hk1 (by first | (left; omega) | (right; have := of_decide_eq_false hle; omega)))
          have hrl : W63 (g + (e - (k : Int) + 1074).toNat * 4503599627370496) := madeR_lt hk1 he2
          go_upto_if 37 with (fail)
          go_cut [7] (fun v w' => v = .int .u64 ((g + (e - (k : Int) + 1074).toNat * 4503599627370496 : Nat) : Int) ∧ w = w')
          case first =>
            go_wp2
            go_meet
            exact ⟨by go_num, rfl⟩
          case rest =>
            obtain ⟨rfl, rfl⟩ := hcut
            clear hge hlt
            generalize g + (e - (k : Int) + 1074).toNat * 4503599627370496 = r at *
            have hor : bits .or .u64 (r : Int) 9223372036854775808 = ((r + 9223372036854775808 : Nat) : Int) := or63 hrl
            have Hor := Lib.hid hor; clear hor
            cases neg
            all_goals
              go_wp2
              go_ret
              exact ⟨ret_int (by rw [hfin.out]; unfold wordD; (first | rw [Hor.out] | skip); simp), rfl⟩
        case true =>
          have hge : decide ((4503599627370496 : Int) ≤ (g : Int)) = false := by have := of_decide_eq_true hlt; simp; omega
          cases hle : decide (-1074 < e - (k : Int))
          case false =>
            have hfin : Hid (madeD neg s e = wordD neg (g + (e - (k : Int) + 1074).toNat * 4503599627370496)) := Lib.hid (madeD_eq HG.out hk2 hk1 (by first | (left; omega) | (right; have := of_decide_eq_false hle; omega)))
            have hrl : W63 (g + (e - (k : Int) + 1074).toNat * 4503599627370496) := madeR_lt hk1 he2
            go_upto_if 37 with (fail)
            go_cut [7] (fun v w' => v = .int .u64 ((g + (e - (k : Int) + 1074).toNat * 4503599627370496 : Nat) : Int) ∧ w = w')
            case first =>
              have hle2 := of_decide_eq_false hle
              go_wp2
              go_meet
              exact ⟨by go_num, rfl⟩
            case rest =>
              obtain ⟨rfl, rfl⟩ := hcut
              clear hge hlt
              generalize g + (e - (k : Int) + 1074).toNat * 4503599627370496 = r at *
              have hor : bits .or .u64 (r : Int) 9223372036854775808 = ((r + 9223372036854775808 : Nat) : Int) := or63 hrl
              have Hor := Lib.hid hor; clear hor
              cases neg
              all_goals
                go_wp2
                go_ret
                exact ⟨ret_int (by rw [hfin.out]; unfold wordD; (first | rw [Hor.out] | skip); simp), rfl⟩
          case true =>
            go_wp2
            go_round
            case rel =>
              have h3 := of_decide_eq_true hlt
              have h4 := of_decide_eq_true hle
              have h5 := HG.out
              have h6 : s * 2 ^ (k + 1) = g * 2 := by rw [Nat.pow_succ, ← Nat.mul_assoc, h5]
              exact ⟨k + 1, by rw [h6]; omega, by omega, by rw [h6]; go_num, by go_num⟩
            case measure =>
              have h4 := of_decide_eq_true hle
              simp [intOf]; omega
end Go.Proofs.Ytamaeggkpdgaiaa
