/- Lengths in bits, bits, zeros at the end, of natural numbers. Plain facts; no program in sight. -/
import Derived.Test.YtamaeggkpdgaiaaNa
import Derived.Test.YtamaeggkpdgaiaaFa
namespace Go.Proofs.Ytamaeggkpdgaiaa
open Go.RowKit

/-- How many bits a number has. -/
def lenN (N : Nat) : Nat := if N = 0 then 0 else N.log2 + 1
theorem lenN_zero : lenN 0 = 0 := rfl
theorem lenN_le {N k : Nat} : lenN N ≤ k ↔ N < 2 ^ k := by
  unfold lenN
  by_cases h : N = 0
  · subst h; simp [Nat.two_pow_pos]
  · rw [if_neg h, ← Nat.log2_lt h]; omega
theorem lt_lenN {N k : Nat} : k < lenN N ↔ 2 ^ k ≤ N := by have := @lenN_le N k; omega
theorem lenN_pos {N : Nat} (h : N ≠ 0) : 0 < lenN N := by unfold lenN; rw [if_neg h]; omega
theorem lenN_eq {N k : Nat} (h1 : 2 ^ k ≤ N) (h2 : N < 2 ^ (k + 1)) : lenN N = k + 1 := by
  have := lenN_le.2 h2; have := lt_lenN.2 h1; omega
theorem two_pow_le_of_len {N : Nat} (h : N ≠ 0) : 2 ^ (lenN N - 1) ≤ N := lt_lenN.1 (by have := lenN_pos h; omega)
theorem lt_two_pow_len (N : Nat) : N < 2 ^ lenN N := lenN_le.1 (Nat.le_refl _)
theorem wN_len (N : Nat) : wN N = (lenN N + 31) / 32 := by
  unfold wN lenN; split <;> omega
theorem dig_top {N : Nat} (h : N ≠ 0) : dig N (wN N - 1) = N / 4294967296 ^ (wN N - 1) := by
  have hp := wN_pos h
  have h1 := lt_wN N
  unfold dig
  apply Nat.mod_eq_of_lt
  rw [Nat.div_lt_iff_lt_mul (bbp _), Nat.mul_comm, ← Nat.pow_succ, Nat.succ_eq_add_one, show wN N - 1 + 1 = wN N from by omega]
  exact h1
theorem lenN_shift {N k : Nat} : lenN (N / 2 ^ k) = lenN N - k := by
  apply Nat.le_antisymm
  · rw [lenN_le, Nat.div_lt_iff_lt_mul (Nat.two_pow_pos _), ← Nat.pow_add]
    exact Nat.lt_of_lt_of_le (lt_two_pow_len N) (Nat.pow_le_pow_right (by decide) (by omega))
  · by_cases h : lenN N ≤ k
    · omega
    · have h1 : N ≠ 0 := by intro h0; subst h0; simp [lenN] at h
      have h2 := two_pow_le_of_len h1
      have : lenN N - k - 1 < lenN (N / 2 ^ k) := by
        rw [lt_lenN, Nat.le_div_iff_mul_le (Nat.two_pow_pos _), ← Nat.pow_add]
        exact Nat.le_trans (Nat.pow_le_pow_right (by decide) (by omega)) h2
      omega
theorem lenN_top {N : Nat} (h : N ≠ 0) : lenN N = 32 * (wN N - 1) + lenN (dig N (wN N - 1)) := by
  rw [dig_top h, pow32, lenN_shift]
  have := wN_len N; have := lenN_pos h
  omega
theorem lenN_mul_pow {N k : Nat} (h : N ≠ 0) : lenN (N * 2 ^ k) = lenN N + k := by
  have h1 := two_pow_le_of_len h; have h2 := lt_two_pow_len N; have h3 := lenN_pos h
  have : lenN (N * 2 ^ k) = (lenN N - 1 + k) + 1 := by
    apply lenN_eq
    · rw [Nat.pow_add]; exact Nat.mul_le_mul_right _ h1
    · rw [show lenN N - 1 + k + 1 = lenN N + k from by omega, Nat.pow_add]; exact Nat.mul_lt_mul_of_pos_right h2 (Nat.two_pow_pos _)
  omega
theorem lenN_mono {N M : Nat} (h : N ≤ M) : lenN N ≤ lenN M := lenN_le.2 (Nat.lt_of_le_of_lt h (lt_two_pow_len M))
theorem lenN_mul_le (N M : Nat) : lenN (N * M) ≤ lenN N + lenN M := by
  rw [lenN_le, Nat.pow_add]
  exact Nat.mul_lt_mul'' (lt_two_pow_len N) (lt_two_pow_len M)
theorem lenN_add_le (N M : Nat) : lenN (N + M) ≤ max (lenN N) (lenN M) + 1 := by
  rw [lenN_le, Nat.pow_succ]
  have h1 : N < 2 ^ max (lenN N) (lenN M) := Nat.lt_of_lt_of_le (lt_two_pow_len N) (Nat.pow_le_pow_right (by decide) (Nat.le_max_left _ _))
  have h2 : M < 2 ^ max (lenN N) (lenN M) := Nat.lt_of_lt_of_le (lt_two_pow_len M) (Nat.pow_le_pow_right (by decide) (Nat.le_max_right _ _))
  omega
theorem wN_mono {N M : Nat} (h : N ≤ M) : wN N ≤ wN M := wN_le.2 (Nat.lt_of_le_of_lt h (lt_wN M))

/-- Bit i, as a number. -/
def bitN (N i : Nat) : Nat := N / 2 ^ i % 2
theorem bitN_dig (N i : Nat) : bitN N i = dig N (i / 32) / 2 ^ (i % 32) % 2 := by
  unfold bitN dig
  have e : 2 ^ i = 4294967296 ^ (i / 32) * 2 ^ (i % 32) := by rw [pow32, ← Nat.pow_add, Nat.div_add_mod]
  rw [e, ← Nat.div_div_eq_div_mul]
  generalize N / 4294967296 ^ (i / 32) = X
  have hk : i % 32 < 32 := Nat.mod_lt _ (by decide)
  generalize i % 32 = k at *
  obtain ⟨j, hj⟩ : ∃ j, (4294967296 : Nat) = 2 ^ k * (2 * j) := ⟨2 ^ (31 - k), by rw [← Nat.pow_succ', ← Nat.pow_add, show k + (31 - k + 1) = 32 from by omega]⟩
  rw [hj, Nat.mod_mul_right_div_self, Nat.mod_mul_right_mod]
theorem bitN_high {N i n : Nat} (h : N < 4294967296 ^ n) (hi : n ≤ i / 32) : bitN N i = 0 := by
  rw [bitN_dig, dig_high h hi]; simp

/-- How many zeros a number ends in. -/
def tz (N : Nat) : Nat := if h : N = 0 then 0 else if N % 2 = 1 then 0 else tz (N / 2) + 1
termination_by N
decreasing_by omega
theorem tz_zero : tz 0 = 0 := by unfold tz; simp
theorem tz_odd {N : Nat} (h : N % 2 = 1) : tz N = 0 := by unfold tz; simp [h]
theorem tz_even {N : Nat} (h0 : N ≠ 0) (h : N % 2 = 0) : tz N = tz (N / 2) + 1 := by rw [tz, dif_neg h0, if_neg (by omega)]
theorem tz_mul {N k : Nat} (h0 : N ≠ 0) : tz (N * 2 ^ k) = tz N + k := by
  induction k with
  | zero => simp
  | succ k ih =>
    have hp := Nat.two_pow_pos k
    have hne : N * 2 ^ (k + 1) ≠ 0 := Nat.mul_ne_zero h0 (Nat.ne_of_gt (Nat.two_pow_pos _))
    rw [tz_even hne (by rw [Nat.pow_succ, ← Nat.mul_assoc]; omega)]
    rw [show N * 2 ^ (k + 1) / 2 = N * 2 ^ k from by rw [Nat.pow_succ, ← Nat.mul_assoc, Nat.mul_div_cancel _ (by decide)], ih]
    rfl
theorem tz_spec : ∀ (N : Nat), N ≠ 0 → ∃ m, N = m * 2 ^ tz N ∧ m % 2 = 1 := by
  intro N
  induction N using Nat.strongRecOn with
  | _ N ih =>
    intro h0
    by_cases h : N % 2 = 1
    · exact ⟨N, by rw [tz_odd h]; simp, h⟩
    · obtain ⟨m, hm, ho⟩ := ih (N / 2) (by omega) (by omega)
      refine ⟨m, ?_, ho⟩
      rw [tz_even h0 (by omega), Nat.pow_succ, ← Nat.mul_assoc, ← hm]
      omega
theorem tz_unique {N m k : Nat} (h : N = m * 2 ^ k) (ho : m % 2 = 1) : tz N = k := by
  subst h
  rw [tz_mul (by omega), tz_odd ho]; omega
theorem tz_lt {N : Nat} (h : N ≠ 0) : tz N < lenN N := by
  obtain ⟨m, hm, ho⟩ := tz_spec N h
  rw [lt_lenN]
  generalize tz N = k at *
  subst hm
  have := Nat.two_pow_pos k
  exact Nat.le_mul_of_pos_left _ (by omega)
/-- All words below place k are 0, so far as 2^(32 k) divides. -/
theorem tz_words {N k : Nat} (h0 : N ≠ 0) (h : 4294967296 ^ k ∣ N) : 32 * k ≤ tz N := by
  obtain ⟨m, rfl⟩ := h
  have hm : m ≠ 0 := by intro h; subst h; simp at h0
  rw [pow32, Nat.mul_comm (2 ^ (32 * k)) m, tz_mul hm]; omega

theorem or_shift32 {a b : Nat} (ha : a < 4294967296) (hb : b < 4294967296) : bits .or .u64 ((a : Int) * 4294967296) (b : Int) = ((a * 4294967296 + b : Nat) : Int) := by
  have h := u64_or_nat (a * 4294967296) b (by omega) (by omega)
  have e : ((a * 4294967296 : Nat) : Int) = (a : Int) * 4294967296 := by omega
  rw [e] at h
  rw [h]
  congr 1
  have := nat_join 32 (a * 4294967296) b (by omega) (by simpa using hb)
  omega
theorem and_low32 {v : Nat} (hv : v < 18446744073709551616) : bits .and .u64 (v : Int) 4294967295 = ((v % 4294967296 : Nat) : Int) := by
  have h := u64_and_nat v 4294967295 hv (by decide)
  have e : ((4294967295 : Nat) : Int) = 4294967295 := rfl
  rw [e] at h
  rw [h, show (4294967295 : Nat) = 2 ^ 32 - 1 from by decide, Nat.and_two_pow_sub_one_eq_mod]
end Go.Proofs.Ytamaeggkpdgaiaa
