/- Natural numbers by their words of 32 bits, the lowest first. Plain facts; no program in sight. -/
import Derived.Test.YtamaeggkpdgaiaaGb
namespace Go.Proofs.Ytamaeggkpdgaiaa
open Go.RowKit

theorem bbp (n : Nat) : 0 < 4294967296 ^ n := Nat.pow_pos (by decide)
/-- Word i of a number. -/
def dig (N i : Nat) : Nat := N / 4294967296 ^ i % 4294967296
theorem dig_lt (N i : Nat) : dig N i < 4294967296 := Nat.mod_lt _ (by decide)
/-- How many words a number has. -/
def wN (N : Nat) : Nat := if N = 0 then 0 else N.log2 / 32 + 1

theorem pow32 (n : Nat) : 4294967296 ^ n = 2 ^ (32 * n) := by rw [Nat.pow_mul]
theorem wN_le {N n : Nat} : wN N ≤ n ↔ N < 4294967296 ^ n := by
  unfold wN
  by_cases h : N = 0
  · subst h; simp [bbp]
  · rw [if_neg h, pow32, ← Nat.log2_lt h]; omega
theorem lt_wN (N : Nat) : N < 4294967296 ^ wN N := wN_le.1 (Nat.le_refl _)
theorem wN_zero {N : Nat} : wN N = 0 ↔ N = 0 := by unfold wN; split <;> simp_all
theorem wN_pos {N : Nat} (h : N ≠ 0) : 0 < wN N := by
  have := mt wN_zero.1 h; omega
theorem le_wN {N n : Nat} : n < wN N ↔ 4294967296 ^ n ≤ N := by
  have := @wN_le N n; omega

theorem dig_high {N n i : Nat} (h : N < 4294967296 ^ n) (hi : n ≤ i) : dig N i = 0 := by
  unfold dig
  rw [Nat.div_eq_of_lt (Nat.lt_of_lt_of_le h (Nat.pow_le_pow_right (by decide) hi))]
theorem mod_succ (N n : Nat) : N % 4294967296 ^ (n + 1) = N % 4294967296 ^ n + dig N n * 4294967296 ^ n := by
  unfold dig
  rw [Nat.pow_succ, Nat.mod_mul]
  rw [Nat.mul_comm]
theorem lt_succ {N n : Nat} (h : N < 4294967296 ^ (n + 1)) : N = N % 4294967296 ^ n + dig N n * 4294967296 ^ n := by
  rw [← mod_succ, Nat.mod_eq_of_lt h]
/-- The highest word is 0: the number has fewer. -/
theorem lt_of_top {N n : Nat} (h : N < 4294967296 ^ (n + 1)) (h0 : dig N n = 0) : N < 4294967296 ^ n := by
  have := lt_succ h
  rw [h0] at this
  have h2 := Nat.mod_lt N (bbp n)
  omega
theorem top_ne {N : Nat} (h : N ≠ 0) : dig N (wN N - 1) ≠ 0 := by
  intro h0
  have hp := wN_pos h
  have h1 : N < 4294967296 ^ (wN N - 1 + 1) := by rw [show wN N - 1 + 1 = wN N from by omega]; exact lt_wN N
  have := wN_le.2 (lt_of_top h1 h0)
  omega
/-- From its end on the words are 0. -/
theorem wN_of_top {N n : Nat} (h : N < 4294967296 ^ n) (ht : n = 0 ∨ dig N (n - 1) ≠ 0) : wN N = n := by
  have h1 := wN_le.2 h
  rcases ht with rfl | ht
  · omega
  · rcases Nat.lt_or_ge (wN N) n with h2 | h2
    · exact absurd (dig_high (lt_wN N) (by omega)) ht
    · omega

theorem dig_mod (N : Nat) {n i : Nat} (h : i < n) : dig (N % 4294967296 ^ n) i = dig N i := by
  unfold dig
  obtain ⟨k, rfl⟩ : ∃ k, n = i + 1 + k := ⟨n - i - 1, by omega⟩
  rw [Nat.pow_add, Nat.pow_add, Nat.pow_one, Nat.mul_assoc, Nat.mod_mul_right_div_self, Nat.mod_mul_right_mod]
theorem dig_div (N n i : Nat) : dig (N / 4294967296 ^ n) i = dig N (n + i) := by
  unfold dig
  rw [Nat.div_div_eq_div_mul, ← Nat.pow_add]
theorem dig_mul_pow (N : Nat) {n i : Nat} : dig (N * 4294967296 ^ n) (n + i) = dig N i := by
  unfold dig
  rw [Nat.pow_add, ← Nat.div_div_eq_div_mul, Nat.mul_div_cancel _ (bbp n)]
theorem dig_mul_low (N : Nat) {n i : Nat} (h : i < n) : dig (N * 4294967296 ^ n) i = 0 := by
  unfold dig
  obtain ⟨k, rfl⟩ : ∃ k, n = i + 1 + k := ⟨n - i - 1, by omega⟩
  rw [show i + 1 + k = i + (1 + k) from by omega, Nat.pow_add, Nat.mul_left_comm, Nat.mul_div_cancel_left _ (bbp i), Nat.pow_add, Nat.pow_one, Nat.mul_left_comm, Nat.mul_mod_right]

/-- Numbers are told by their words. -/
theorem eq_of_dig {N M n : Nat} (hN : N < 4294967296 ^ n) (hM : M < 4294967296 ^ n) (h : ∀ i < n, dig N i = dig M i) : N = M := by
  have key : ∀ k, k ≤ n → N % 4294967296 ^ k = M % 4294967296 ^ k := by
    intro k
    induction k with
    | zero => intro _; simp [Nat.mod_one]
    | succ k ih => intro hk; rw [mod_succ, mod_succ, ih (by omega), h k (by omega)]
  have := key n (Nat.le_refl _)
  rwa [Nat.mod_eq_of_lt hN, Nat.mod_eq_of_lt hM] at this

/-- The number of given words. -/
def natV (n : Nat) (d : Nat → Nat) : Nat := match n with | 0 => 0 | n + 1 => natV n d + d n * 4294967296 ^ n
theorem natV_lt {n : Nat} {d : Nat → Nat} (h : ∀ i < n, d i < 4294967296) : natV n d < 4294967296 ^ n := by
  induction n with
  | zero => simp [natV]
  | succ n ih =>
    have h1 := ih fun i hi => h i (by omega)
    have h2 := h n (by omega)
    unfold natV
    rw [Nat.pow_succ]
    have : d n * 4294967296 ^ n ≤ 4294967295 * 4294967296 ^ n := Nat.mul_le_mul_right _ (by omega)
    omega
theorem natV_congr {n : Nat} {d e : Nat → Nat} (h : ∀ i < n, d i = e i) : natV n d = natV n e := by
  induction n with
  | zero => rfl
  | succ n ih => unfold natV; rw [ih fun i hi => h i (by omega), h n (by omega)]
theorem natV_dig (N n : Nat) : natV n (dig N) = N % 4294967296 ^ n := by
  induction n with
  | zero => simp [natV, Nat.mod_one]
  | succ n ih => unfold natV; rw [ih, mod_succ]
theorem dig_natV {n : Nat} {d : Nat → Nat} (h : ∀ i < n, d i < 4294967296) : ∀ i < n, dig (natV n d) i = d i := by
  induction n with
  | zero => intro i hi; omega
  | succ n ih =>
    intro i hi
    have h1 := natV_lt fun i hi => h i (Nat.lt_succ_of_lt hi)
    have h2 := h n (by omega)
    unfold natV
    by_cases e : i = n
    · subst e
      unfold dig
      rw [Nat.add_mul_div_right _ _ (bbp i), Nat.div_eq_of_lt h1, Nat.zero_add, Nat.mod_eq_of_lt h2]
    · have : dig (natV n d + d n * 4294967296 ^ n) i = dig ((natV n d + d n * 4294967296 ^ n) % 4294967296 ^ n) i := (dig_mod _ (by omega)).symm
      rw [this, Nat.add_mul_mod_self_right, Nat.mod_eq_of_lt h1]
      exact ih (fun i hi => h i (by omega)) i (by omega)

/-- Which of two is greater is told by the highest word at which they part. -/
theorem lt_of_part {N M k : Nat} (h : N / 4294967296 ^ (k + 1) = M / 4294967296 ^ (k + 1)) (hd : dig N k < dig M k) : N < M := by
  have e : ∀ X : Nat, X / 4294967296 ^ k = X / 4294967296 ^ (k + 1) * 4294967296 + dig X k := fun X => by
    unfold dig
    rw [Nat.pow_succ, ← Nat.div_div_eq_div_mul]
    exact (Nat.div_add_mod' _ _).symm
  have h1 : N / 4294967296 ^ k < M / 4294967296 ^ k := by rw [e N, e M, h]; omega
  exact Nat.lt_of_not_le fun hle => absurd (Nat.div_le_div_right (c := 4294967296 ^ k) hle) (by omega)
theorem div_step {N M k : Nat} (h : N / 4294967296 ^ (k + 1) = M / 4294967296 ^ (k + 1)) (hd : dig N k = dig M k) : N / 4294967296 ^ k = M / 4294967296 ^ k := by
  have e : ∀ X : Nat, X / 4294967296 ^ k = X / 4294967296 ^ (k + 1) * 4294967296 + dig X k := fun X => by
    unfold dig
    rw [Nat.pow_succ, ← Nat.div_div_eq_div_mul]
    exact (Nat.div_add_mod' _ _).symm
  rw [e N, e M, h, hd]
theorem lt_of_words {N M : Nat} (h : wN N < wN M) : N < M :=
  Nat.lt_of_lt_of_le (lt_wN N) (le_wN.1 h)

/-- A slice of n words that is a number. -/
def NumR (w : World) (B : Nat) (A : Option Addr) (n N : Nat) : Prop := N < 4294967296 ^ n ∧ RowN w B 1 A n fun i _ => .int .u32 (dig N i : Int)
theorem NumR.below {w w' : World} {B n N : Nat} {A : Option Addr} (h : NumR w B A n N) (hb : Below B w w') : NumR w' B A n N := ⟨h.1, h.2.below hb⟩
theorem NumR.more {w : World} {B B' n N : Nat} {A : Option Addr} (h : NumR w B A n N) (hB : B ≤ B') : NumR w B' A n N := ⟨h.1, h.2.more hB⟩
theorem NumR.below' {w w' : World} {B B' n N : Nat} {A : Option Addr} (h : NumR w B A n N) (hb : Below B' w w') (hB : B ≤ B') : NumR w' B A n N := ⟨h.1, h.2.below' hb hB⟩
theorem NumR.next {w w' : World} {n N : Nat} {A : Option Addr} (h : NumR w w.heap.size A n N) (hb : Below w.heap.size w w') : NumR w' w'.heap.size A n N := (h.below hb).more hb.size
/-- Its cells, behind whatever has been laid since. -/
theorem NumR.cells {w wr : World} {n N : Nat} {A : Option Addr} (h : NumR w w.heap.size A n N) (hn : 0 < n) (hb : Below w.heap.size w wr) : ∃ b off, A = some ⟨b, off, none⟩ ∧ b < w.heap.size ∧ ∀ i < n, wr.cell? ⟨b, off + i, none⟩ = some (.int .u32 (dig N i : Int)) := by
  obtain ⟨b, off, e, hB, hc⟩ := h.2 hn
  exact ⟨b, off, e, hB, fun i hi => by rw [hb.cell (p := ⟨b, _, none⟩) hB]; simpa using hc i hi 0 (by omega)⟩
theorem NumR.zero {w : World} {B : Nat} {A : Option Addr} : NumR w B A 0 0 := ⟨by simp, RowN.nil⟩
theorem NumR.is_zero {w : World} {B N : Nat} {A : Option Addr} (h : NumR w B A 0 N) : N = 0 := by have := h.1; simpa using this
theorem NumR.words {w : World} {B n N : Nat} {A : Option Addr} (h : NumR w B A n N) : wN N ≤ n := wN_le.2 h.1

end Go.Proofs.Ytamaeggkpdgaiaa
