/- Binary64 made thin again. No program in sight. -/
import Derived.Test.YtamaeggkpdgaiaaFd
namespace Go.Proofs.Ytamaeggkpdgaiaa
open Go.RowKit

theorem wideRung_normal {r : Nat} (h1 : 8388608 ≤ r) (h2 : r < 2139095040) : Fl.wideRung r = (r / 8388608 + 896) * 4503599627370496 + r % 8388608 * 536870912 := by
  unfold Fl.wideRung
  rw [if_pos h2, ← rungD_flr]
  unfold Fl.wideM
  have hw := Fl.wsh_eq
  have hm : Fl.mag 23 r = (r % 8388608 + 8388608) * 2 ^ (r / 8388608 - 1) := by
    have h' : ¬ r < 2 ^ 23 := by omega
    unfold Fl.mag
    rw [if_neg h', Nat.add_comm (r % 8388608)]
  rw [hm, Nat.mul_assoc, ← Nat.pow_add, show r / 8388608 - 1 + Fl.wsh = 29 + (r / 8388608 + 895) from by omega, Nat.pow_add, ← Nat.mul_assoc]
  have e : (r % 8388608 + 8388608) * 2 ^ 29 = r % 8388608 * 536870912 + 4503599627370496 := by omega
  have hf : r % 8388608 < 8388608 := Nat.mod_lt _ (by omega)
  clear hm hw h1 h2
  generalize r / 8388608 = q at *
  generalize r % 8388608 = f at *
  rw [e]
  clear e
  rw [rungD_full (by omega) (by omega), Nat.add_mul q 896, Nat.add_mul q 895]
  omega

theorem wideRung_sub {r : Nat} (h1 : r ≠ 0) (h2 : r < 8388608) : Fl.wideRung r = (r.log2 + 873) * 4503599627370496 + r * 2 ^ (52 - r.log2) := by
  have hL : r.log2 < 23 := (Nat.log2_lt h1).2 h2
  unfold Fl.wideRung
  rw [if_pos (by omega), ← rungD_flr]
  unfold Fl.wideM
  have hw : Fl.wsh = (52 - r.log2) + (r.log2 + 873) := by
    rw [Fl.wsh_eq]
    clear h1 h2
    generalize r.log2 = l at *
    omega
  rw [mag23 h2, hw, Nat.pow_add, ← Nat.mul_assoc]
  have a1 := Nat.log2_self_le h1
  have a2 := Nat.lt_log2_self (n := r)
  have e1 : 2 ^ r.log2 * 2 ^ (52 - r.log2) = 4503599627370496 := by rw [← Nat.pow_add, show r.log2 + (52 - r.log2) = 52 from by omega]
  have e2 : 2 ^ (r.log2 + 1) * 2 ^ (52 - r.log2) = 9007199254740992 := by rw [← Nat.pow_add, show r.log2 + 1 + (52 - r.log2) = 53 from by omega]
  have b1 : 4503599627370496 ≤ r * 2 ^ (52 - r.log2) := by rw [← e1]; exact Nat.mul_le_mul_right _ a1
  have b2 : r * 2 ^ (52 - r.log2) < 9007199254740992 := by rw [← e2]; exact Nat.mul_lt_mul_of_pos_right a2 (Nat.two_pow_pos _)
  rw [rungD_full b1 b2]

/-- The fields of the wide word of a number of binary32: exponent and the fraction's upper part; what the thin word is of them. -/
theorem wide_fields {r : Nat} (h0 : r ≠ 0) (h : r < 2139095040) : ∃ E M : Nat, Fl.wideRung r = E * 4503599627370496 + M * 536870912 ∧ M < 8388608 ∧ 1 ≤ E ∧ E ≤ 1150 ∧
    (897 ≤ E → r = (E - 896) * 8388608 + M) ∧ (E < 897 → 874 ≤ E ∧ r = (8388608 + M) / 2 ^ (897 - E)) := by
  by_cases h1 : 8388608 ≤ r
  · exact ⟨r / 8388608 + 896, r % 8388608, wideRung_normal h1 h, by omega, by omega, by omega, fun _ => by omega, fun _ => by omega⟩
  · have hL : r.log2 < 23 := (Nat.log2_lt h0).2 (by omega)
    have a1 := Nat.log2_self_le h0
    have a2 := Nat.lt_log2_self (n := r)
    have e1 : 2 ^ r.log2 * 2 ^ (23 - r.log2) = 8388608 := by rw [← Nat.pow_add, show r.log2 + (23 - r.log2) = 23 from by omega]
    have e2 : 2 ^ (r.log2 + 1) * 2 ^ (23 - r.log2) = 16777216 := by rw [← Nat.pow_add, show r.log2 + 1 + (23 - r.log2) = 24 from by omega]
    have b1 : 8388608 ≤ r * 2 ^ (23 - r.log2) := by rw [← e1]; exact Nat.mul_le_mul_right _ a1
    have b2 : r * 2 ^ (23 - r.log2) < 16777216 := by rw [← e2]; exact Nat.mul_lt_mul_of_pos_right a2 (Nat.two_pow_pos _)
    have e3 : r * 2 ^ (52 - r.log2) = r * 2 ^ (23 - r.log2) * 536870912 := by
      rw [show 52 - r.log2 = (23 - r.log2) + 29 from by omega, Nat.pow_add, ← Nat.mul_assoc]
    refine ⟨r.log2 + 874, r * 2 ^ (23 - r.log2) - 8388608, ?_, by omega, by omega, by omega, fun hh => by omega, fun _ => ⟨by omega, ?_⟩⟩
    · rw [wideRung_sub h0 (by omega), e3]; omega
    · rw [show 8388608 + (r * 2 ^ (23 - r.log2) - 8388608) = r * 2 ^ (23 - r.log2) from by omega, show 897 - (r.log2 + 874) = 23 - r.log2 from by omega,
        Nat.mul_div_cancel _ (Nat.two_pow_pos _)]

theorem or_u32 {a b : Nat} (i : Nat) (ha : a % 2 ^ i = 0) (hb : b < 2 ^ i) (ha2 : a < 4294967296) (hb2 : b < 4294967296) : bits .or .u32 (a : Int) (b : Int) = ((a + b : Nat) : Int) := by
  rw [u32_or_nat a b ha2 hb2, nat_join i a b ha hb]

/-- The thin word of the fields. -/
theorem thin_norm {S E M : Nat} (hS : S ≤ 1) (h1 : 897 ≤ E) (h2 : E ≤ 1150) (hM : M < 8388608) :
    bits .or .u32 (bits .or .u32 ((S : Int) * 2147483648) (((E : Int) - 1023 + 127) * 8388608)) (M : Int) = ((S * 2147483648 + ((E - 896) * 8388608 + M) : Nat) : Int) := by
  rw [show (S : Int) * 2147483648 = ((S * 2147483648 : Nat) : Int) from by omega, show ((E : Int) - 1023 + 127) * 8388608 = (((E - 896) * 8388608 : Nat) : Int) from by omega,
    or_u32 31 (by omega) (by omega) (by omega) (by omega), or_u32 23 (by omega) (by omega) (by omega) (by omega), Nat.add_assoc]

theorem thin_sub {S q : Nat} (hS : S ≤ 1) (hq : q < 2147483648) : bits .or .u32 ((S : Int) * 2147483648) (q : Int) = ((S * 2147483648 + q : Nat) : Int) := by
  rw [show (S : Int) * 2147483648 = ((S * 2147483648 : Nat) : Int) from by omega, or_u32 31 (by omega) (by omega) (by omega) (by omega)]

theorem top23 {M : Nat} (hM : M < 8388608) : bits .or .u64 8388608 (M : Int) = ((8388608 + M : Nat) : Int) := by
  have h := u64_or_nat 8388608 M (by decide) (by omega)
  rw [nat_join 23 8388608 M (by decide) (by omega)] at h
  exact h
theorem low23 {M : Nat} (hM : M < 8388608) : bits .and .u32 ((8388608 + M : Nat) : Int) 8388607 = (M : Int) := by
  have h := u32_and_nat (8388608 + M) 8388607 (by omega) (by decide)
  have e : ((8388607 : Nat) : Int) = 8388607 := rfl
  rw [e] at h
  rw [h, nat_mask23, show (8388608 + M) % 8388608 = M from by omega]
theorem exp64 {b : Nat} (hb : W64 b) : bits .and .u64 ((b : Int) / 4503599627370496) 2047 = ((b / 4503599627370496 % 2048 : Nat) : Int) := by
  unfold W64 at hb
  have h := u64_and_nat (b / 4503599627370496) 2047 (by omega) (by decide)
  have e : ((2047 : Nat) : Int) = 2047 := rfl
  rw [e] at h
  rw [show (b : Int) / 4503599627370496 = ((b / 4503599627370496 : Nat) : Int) from by omega, h, nat_mask11]
theorem frac23 (b : Nat) : IntKind.u64.wrap ((b : Int) * 4096) / 2199023255552 = ((b % 4503599627370496 / 536870912 : Nat) : Int) := by
  rw [IntKind.wrap_u64]; omega

end Go.Proofs.Ytamaeggkpdgaiaa
