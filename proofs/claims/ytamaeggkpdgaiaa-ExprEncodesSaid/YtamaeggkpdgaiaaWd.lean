/- The walk of the reference's widening. -/
import Derived.Test.YtamaeggkpdgaiaaWc
namespace Go.Proofs.Ytamaeggkpdgaiaa
open Go.RowKit

set_option maxRecDepth 100000 in
set_option maxHeartbeats 400000 in
theorem infD_any (neg : Bool) (w : World) :
    Calls Try.prog 140 #[.bool neg] w fun e w' => e = .returned (.int .u64 (infD neg : Int)) ∧ w = w' := by
  cases neg
  all_goals
    go_enter Try.func140, Try.ntmps140
    go_wp2
    go_ret
    exact ⟨rfl, rfl⟩

set_option maxRecDepth 100000 in
set_option maxHeartbeats 1000000 in
theorem wideR_any (x : Nat) (hx : W32 x) (w : World) :
    Calls Try.prog 124 #[.int .u32 (x : Int)] w fun e w' => e = .returned (.int .u64 (wideR x : Int)) ∧ w = w' := by
  have hE := expS_bits hx
  have hF := fracS_bits hx
  have hEl := expS_le x
  have hFl := fracS_lt x
  have hneg : ((x : Int) / 2147483648 == 1) = negS x := rfl
  have HU : Hid (wideR x = _) := Lib.hid (by unfold wideR; rfl)
  generalize expS x = E at *
  generalize fracS x = F at *
  generalize negS x = S at *
  by_cases h1 : E = 255
  · subst h1
    by_cases h2 : F = 0
    · subst h2
      go_enter Try.func124, Try.ntmps124
      go_wp2_with (go_at_call 140; refine (infD_any _ _).mono ?_; rintro e w' ⟨rfl, rfl⟩)
      go_ret
      exact ⟨ret_int (by rw [HU.out]; simp), rfl⟩
    · go_enter Try.func124, Try.ntmps124
      go_wp2_with (go_at_call 140; refine (infD_any _ _).mono ?_; rintro e w' ⟨rfl, rfl⟩)
      go_ret
      exact ⟨ret_int (by rw [HU.out]; simp [h2]), rfl⟩
  · by_cases h3 : E = 0
    · subst h3
      by_cases h2 : F = 0
      · subst h2
        go_enter Try.func124, Try.ntmps124
        go_wp2_with (go_at_call 144; refine (made_zero _ _ _).mono ?_; rintro e w' ⟨rfl, rfl⟩)
        go_ret
        exact ⟨ret_int (by rw [HU.out]; simp), rfl⟩
      · go_enter Try.func124, Try.ntmps124
        go_wp2_with (go_at_call 144; refine (made_small _ _ _ (by omega) (by omega) (by omega) (by omega) _).mono ?_; rintro e w' ⟨rfl, rfl⟩)
        go_ret
        exact ⟨ret_int (by rw [HU.out]; simp [h2]), rfl⟩
    · have HU2 : Hid (wideR x = madeD S (F + 8388608) ((E : Int) - 1 - 149)) := Lib.hid (by rw [HU.out, if_neg h1, if_neg h3]; congr 1; omega)
      have He1 : Hid (((F : Int) + 8388608) = ((F + 8388608 : Nat) : Int)) := Lib.hid (by omega)
      go_enter Try.func124, Try.ntmps124
      go_wp2_with (go_at_call 144; rw [He1.out]; refine (made_small _ _ _ (by omega) (by omega) (by omega) (by omega) _).mono ?_; rintro e w' ⟨rfl, rfl⟩)
      go_ret
      exact ⟨ret_int (by rw [HU2.out]), rfl⟩

end Go.Proofs.Ytamaeggkpdgaiaa
