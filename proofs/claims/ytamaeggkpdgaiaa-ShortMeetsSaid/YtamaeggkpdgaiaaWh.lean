/- The walks of the reference's thinning, and of its reading of binary32. -/
import Derived.Test.YtamaeggkpdgaiaaWg
import Derived.Test.YtamaeggkpdgaiaaFe
namespace Go.Proofs.Ytamaeggkpdgaiaa
open Go.RowKit

set_option maxRecDepth 100000 in
set_option maxHeartbeats 400000 in
theorem isInf3_any (x : Nat) (hx : W64 x) (w : World) :
    Calls Try.prog 111 #[.int .u64 (x : Int)] w fun e w' => e = .returned (.bool (((x % 9223372036854775808 : Nat) : Int) == 9218868437227405312)) ∧ w = w' := by
  have h63 := andNot63 hx
  generalize x % 9223372036854775808 = y at *
  go_enter Try.func111, Try.ntmps111
  go_wp2
  go_ret
  exact ⟨rfl, rfl⟩

set_option maxRecDepth 100000 in
set_option maxHeartbeats 400000 in
theorem thin_zero (w : World) :
    Calls Try.prog 90 #[.int .u64 0] w fun e w' => e = .returned (.int .u32 0) ∧ w = w' := by
  have hc := isInf3_any 0 (by unfold W64; decide)
  have hb0 : bits .and .u64 0 2047 = 0 := by decide
  go_enter Try.func90, Try.ntmps90
  go_wp2_with (go_at_call 111; refine (hc _).mono ?_; rintro e w' ⟨rfl, rfl⟩)
  go_ret
  exact ⟨rfl, rfl⟩

set_option maxRecDepth 100000 in
set_option maxHeartbeats 400000 in
theorem thin_inf (s : Bool) (w : World) :
    Calls Try.prog 90 #[.int .u64 (infD s : Int)] w fun e w' => e = .returned (.int .u32 (if s then 4286578688 else 2139095040)) ∧ w = w' := by
  have hc := isInf3_any (infD s) (by unfold W64 infD; cases s <;> decide)
  cases s
  all_goals
    unfold infD at *
    go_enter Try.func90, Try.ntmps90
    go_wp2_with (go_at_call 111; refine (hc _).mono ?_; rintro e w' ⟨rfl, rfl⟩)
    go_ret
    exact ⟨rfl, rfl⟩

set_option maxRecDepth 100000 in
set_option maxHeartbeats 400000 in
theorem thin_fields (b S E M : Nat) (hx : W64 b) (w : World) (hS : (b : Int) / 9223372036854775808 = (S : Int)) (hSl : S ≤ 1)
    (hE : b / 4503599627370496 % 2048 = E) (hM : b % 4503599627370496 / 536870912 = M) (hMl : M < 8388608) (hE1 : 1 ≤ E) (hEl : E ≤ 1150)
    (hi : (((b % 9223372036854775808 : Nat) : Int) == 9218868437227405312) = false) (q : Nat) (hq : q < 2147483648)
    (hq1 : 897 ≤ E → q = (E - 896) * 8388608 + M) (hq2 : E < 897 → 874 ≤ E ∧ q = (8388608 + M) / 2 ^ (897 - E)) :
    Calls Try.prog 90 #[.int .u64 (b : Int)] w fun e w' => e = .returned (.int .u32 ((S * 2147483648 + q : Nat) : Int)) ∧ w = w' := by
  have hc := isInf3_any b hx
  have hE' := exp64 hx
  have hM' := frac23 b
  rw [hE] at hE'; rw [hM] at hM'
  have hO := top23 hMl
  have hm : ((8388608 + M : Nat) : Int) % 4294967296 = ((8388608 + M : Nat) : Int) := by omega
  have Hc := Lib.hid hc; have Hi := Lib.hid hi; have Hq1 := Lib.hid hq1; have Hq2 := Lib.hid hq2
  have hmc : Hid (((8388608 + M : Nat) : Int) = (8388608 : Int) + (M : Int)) := Lib.hid (by omega)
  clear hc hE hM hi hq1 hq2
  have hE0 : ((E : Int) == 0) = false := by rw [beq_eq_false_iff_ne]; omega
  rw [hmc.out] at hO hm
  by_cases h : 897 ≤ E
  · have hd : decide (-126 ≤ (E : Int) - 1023) = true := by simp; omega
    go_enter Try.func90, Try.ntmps90
    go_wp2_with (go_at_call 111; refine (Hc.out _).mono ?_; rintro e w' ⟨rfl, rfl⟩; rw [Hi.out])
    go_ret
    refine ⟨ret_int ?_, rfl⟩
    have h2 := low23 hMl
    rw [hmc.out] at h2
    rw [h2, thin_norm hSl h hEl hMl, Hq1.out h]
  · have hd : decide (-126 ≤ (E : Int) - 1023) = false := by simp; omega
    have he : (-126 - ((E : Int) - 1023)) = ((897 - E : Nat) : Int) := by omega
    go_enter Try.func90, Try.ntmps90
    go_wp2_with (go_at_call 111; refine (Hc.out _).mono ?_; rintro e w' ⟨rfl, rfl⟩; rw [Hi.out])
    go_ret
    refine ⟨ret_int ?_, rfl⟩
    obtain ⟨h1, h2⟩ := Hq2.out (by omega)
    have e3 : ((8388608 : Int) + (M : Int)) / 2 ^ min (897 - E) 32 = (q : Int) := by
      rw [h2, Nat.min_eq_left (by omega), Int.natCast_ediv, hmc.out, Int.natCast_pow]; rfl
    rw [e3, thin_sub hSl hq]

/-- A magnitude of binary32 with its sign, thin and wide. -/
def thinOf (s : Bool) (r : Nat) : Nat := if r = 0 then 0 else if s then r + 2147483648 else r
def wideOf (s : Bool) (r : Nat) : Nat := if r = 0 then 0 else wordD s (Fl.wideRung r)

theorem wideOf_lt (s : Bool) (r : Nat) : W64 (wideOf s r) := by
  unfold wideOf
  split
  · unfold W64; omega
  · exact wordD_lt (by have := Fl.wideRung_lt (r := r); omega)

theorem thin_any (s : Bool) (r : Nat) (hr : r ≤ 2139095040) (w : World) :
    Calls Try.prog 90 #[.int .u64 (wideOf s r : Int)] w fun e w' => e = .returned (.int .u32 (thinOf s r : Int)) ∧ w = w' := by
  by_cases h0 : r = 0
  · have e1 : wideOf s r = 0 := by unfold wideOf; rw [if_pos h0]
    have e2 : thinOf s r = 0 := by unfold thinOf; rw [if_pos h0]
    rw [e1, e2]; exact thin_zero w
  · by_cases h1 : r = 2139095040
    · have e1 : wideOf s r = infD s := by
        unfold wideOf
        have hw : Fl.wideRung r = 9218868437227405312 := (Fl.wideRung_inf hr).2 h1
        rw [if_neg h0, hw]; cases s <;> rfl
      have e2 : (thinOf s r : Int) = if s then 4286578688 else 2139095040 := by
        unfold thinOf; rw [if_neg h0, h1]; cases s <;> rfl
      rw [e1, e2]; exact thin_inf s w
    · obtain ⟨E, M, e1, h2, h3, h4, h5, h6⟩ := wide_fields h0 (by omega)
      have hR := Fl.wideRung_lt (r := r)
      have e3 : wideOf s r = wordD s (Fl.wideRung r) := by unfold wideOf; rw [if_neg h0]
      have e4 : (thinOf s r) = (if s then 1 else 0) * 2147483648 + r := by
        unfold thinOf; rw [if_neg h0]; cases s <;> simp; omega
      have hb := wideOf_lt s r
      rw [e4]
      rw [e3] at hb ⊢
      rw [e1] at hb hR ⊢
      refine thin_fields _ (if s then 1 else 0) E M hb w ?_ ?_ ?_ ?_ h2 h3 h4 ?_ r (by omega) h5 h6
      · unfold wordD; cases s <;> simp <;> omega
      · cases s <;> simp
      · unfold wordD; cases s <;> simp <;> omega
      · unfold wordD; cases s <;> simp <;> omega
      · rw [beq_eq_false_iff_ne]; unfold wordD; cases s <;> simp <;> omega

end Go.Proofs.Ytamaeggkpdgaiaa
