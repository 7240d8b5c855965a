/- Plain facts on words and bits. No program in sight. -/
import Derived.WalkKit
import Derived.WalkLawsBesides
import Derived.Laws.BitsAllLaws
import Derived.StillTailTactics
namespace Go.Proofs.Ytamaeggkpdgaiaa
open Go.RowKit

/-- A word of 64 bits, of 32 bits. -/
def W64 (x : Nat) : Prop := x < 18446744073709551616
def W32 (x : Nat) : Prop := x < 4294967296

theorem ret_int {k : IntKind} {a b : Int} (h : a = b) : Ending.returned (.int k a) = .returned (.int k b) := by rw [h]
theorem ret_bool {a b : Bool} (h : a = b) : Ending.returned (.bool a) = .returned (.bool b) := by rw [h]
theorem ret_float {k : FloatKind} {a b : Nat} (h : a = b) : Ending.returned (.float k a) = .returned (.float k b) := by rw [h]

/-- Is a pattern of binary64 a NaN's? -/
def nanD (x : Nat) : Bool := decide (9218868437227405312 < x % 9223372036854775808)
/-- Is a pattern of binary32 a NaN's? -/
def nanS (x : Nat) : Bool := decide (2139095040 < x % 2147483648)
def plainD (x : Nat) : Nat := if x = 9223372036854775808 then 0 else if nanD x then 9221120237041090561 else x

theorem andNot63 {x : Nat} (hx : W64 x) : bits .andNot .u64 (x : Int) 9223372036854775808 = ((x % 9223372036854775808 : Nat) : Int) := by
  have h := u64_andNot_nat x 9223372036854775808 hx (by decide)
  have e : ((9223372036854775808 : Nat) : Int) = 9223372036854775808 := rfl
  rw [e] at h
  rw [h]
  have : (18446744073709551615 - 9223372036854775808 : Nat) = 2 ^ 63 - 1 := by decide
  rw [this, Nat.and_two_pow_sub_one_eq_mod]

theorem and31 {x : Nat} (hx : W32 x) : bits .and .u32 (x : Int) 2147483647 = ((x % 2147483648 : Nat) : Int) := by
  have h := u32_and_nat x 2147483647 hx (by decide)
  have e : ((2147483647 : Nat) : Int) = 2147483647 := rfl
  rw [e] at h
  rw [h]
  have : (2147483647 : Nat) = 2 ^ 31 - 1 := by decide
  rw [this, Nat.and_two_pow_sub_one_eq_mod]

def keyD (x : Nat) : Nat := if 9223372036854775808 ≤ plainD x then 18446744073709551615 - plainD x else plainD x + 9223372036854775808
def aboveD (x y : Nat) : Bool := !nanD x && !nanD y && decide (keyD y < keyD x)
def soundD (lo hi : Nat) : Bool := !(nanD lo || nanD hi || aboveD lo hi) && ((lo : Int) != 9218868437227405312) && ((hi : Int) != 18442240474082181120)

theorem plainD_lt {x : Nat} (hx : W64 x) : W64 (plainD x) := by
  unfold W64 plainD at *
  split
  · omega
  · split <;> omega

theorem not64 {x : Nat} (hx : W64 x) : bits .xor .u64 IntKind.u64.max (x : Int) = ((18446744073709551615 - x : Nat) : Int) := by
  have h := u64_xor_nat 18446744073709551615 x (by decide) hx
  have e : IntKind.u64.max = ((18446744073709551615 : Nat) : Int) := rfl
  rw [e, h]
  congr 1
  apply Nat.eq_of_testBit_eq
  intro i
  have h2 : (18446744073709551615 : Nat) = 2 ^ 64 - 1 := by decide
  rw [Nat.testBit_xor, h2, show 2 ^ 64 - 1 - x = 2 ^ 64 - (x + 1) from by omega, Nat.testBit_two_pow_sub_one, Nat.testBit_two_pow_sub_succ hx]
  by_cases hi : i < 64
  · simp [hi]
  · have h3 : x.testBit i = false := Nat.testBit_lt_two_pow (Nat.lt_of_lt_of_le hx (Nat.pow_le_pow_right (n := 2) (i := 64) (by decide) (by omega)))
    simp [hi, h3]

theorem or63 {x : Nat} (h1 : x < 9223372036854775808) : bits .or .u64 (x : Int) 9223372036854775808 = ((x + 9223372036854775808 : Nat) : Int) := by
  have h := u64_or_nat x 9223372036854775808 (by omega) (by decide)
  have e : ((9223372036854775808 : Nat) : Int) = 9223372036854775808 := rfl
  rw [e] at h
  rw [h, Nat.or_comm, nat_join 63 9223372036854775808 x (by decide) (by simpa using h1), Nat.add_comm]

/-- An interval as it is read. -/
def readLo (lo hi : Nat) : Nat := if soundD lo hi then plainD lo else 9218868437227405312
def readHi (lo hi : Nat) : Nat := if soundD lo hi then plainD hi else 18442240474082181120

/-- The rung of the greatest number of binary64 that is not above M units of the least. -/
def rungD (M : Nat) : Nat := (M.log2 - 52) * 4503599627370496 + M / 2 ^ (M.log2 - 52)
def wordD (neg : Bool) (r : Nat) : Nat := if neg then r + 9223372036854775808 else r
/-- The pattern of s times 2^e, below 0 if neg. -/
def madeD (neg : Bool) (s : Nat) (e : Int) : Nat := wordD neg (rungD (s * 2 ^ (e + 1074).toNat))

def topOf (x : Int) : Int := x + 9223372036854775808
theorem or_top {x : Int} (h0 : 0 ≤ x) (h1 : x < 9223372036854775808) : bits .or .u64 x 9223372036854775808 = topOf x := by
  obtain ⟨n, rfl⟩ := Int.eq_ofNat_of_zero_le h0
  rw [or63 (by omega)]; unfold topOf; omega

theorem log2_eq {n k : Nat} (h1 : 2 ^ k ≤ n) (h2 : n < 2 ^ (k + 1)) : n.log2 = k := by
  have h0 : n ≠ 0 := by have := Nat.two_pow_pos k; omega
  have a : k ≤ n.log2 := (Nat.le_log2 h0).2 h1
  have b : n.log2 < k + 1 := (Nat.log2_lt h0).2 h2
  omega

/-- A significand with all its digits: its rung. -/
theorem rungD_full {g j : Nat} (h1 : 4503599627370496 ≤ g) (h2 : g < 9007199254740992) : rungD (g * 2 ^ j) = j * 4503599627370496 + g := by
  have hj : 0 < 2 ^ j := Nat.two_pow_pos j
  have e : (g * 2 ^ j).log2 = 52 + j := by
    apply log2_eq
    · rw [Nat.pow_add]; exact Nat.mul_le_mul_right _ h1
    · rw [show 52 + j + 1 = 53 + j from by omega, Nat.pow_add]; exact Nat.mul_lt_mul_of_pos_right h2 hj
  unfold rungD
  rw [e, show 52 + j - 52 = j from by omega, Nat.mul_div_cancel _ hj]

theorem rungD_low {g : Nat} (h : g < 9007199254740992) : rungD g = g := by
  unfold rungD
  by_cases h1 : g < 4503599627370496
  · have e : g.log2 - 52 = 0 := by
      by_cases h0 : g = 0
      · subst h0; rfl
      · have := (Nat.log2_lt h0 (k := 52)).2 h1; omega
    rw [e]; simp
  · have e : g.log2 = 52 := log2_eq (by omega) (by omega)
    rw [e]; simp

theorem madeD_eq {neg : Bool} {s g k : Nat} {e : Int} (hg : s * 2 ^ k = g) (hk : (k : Int) ≤ e + 1074) (hlt : g < 9007199254740992) (h : 4503599627370496 ≤ g ∨ e - (k : Int) = -1074) :
    madeD neg s e = wordD neg (g + (e - (k : Int) + 1074).toNat * 4503599627370496) := by
  unfold madeD
  congr 1
  obtain ⟨j, hj⟩ : ∃ j : Nat, (e + 1074).toNat = k + j ∧ (e - (k : Int) + 1074).toNat = j := ⟨(e - (k : Int) + 1074).toNat, by omega, rfl⟩
  rw [hj.1, hj.2, Nat.pow_add, ← Nat.mul_assoc, hg]
  rcases h with h | h
  · rw [rungD_full h hlt, Nat.add_comm]
  · have : j = 0 := by omega
    subst this
    simp [rungD_low hlt]

def W63 (x : Nat) : Prop := x < 9223372036854775808
theorem madeR_lt {g k : Nat} {e : Int} (hlt : g < 9007199254740992) (he2 : e ≤ 971) : W63 (g + (e - (k : Int) + 1074).toNat * 4503599627370496) := by
  have : (e - (k : Int) + 1074).toNat ≤ 2045 := by omega
  unfold W63
  omega

/-- The parts of a pattern of binary32. -/
def expS (x : Nat) : Nat := x / 8388608 % 256
def fracS (x : Nat) : Nat := x % 8388608
def negS (x : Nat) : Bool := (x : Int) / 2147483648 == 1

theorem expS_bits {x : Nat} (hx : W32 x) : bits .and .u32 ((x : Int) / 8388608) 255 = (expS x : Int) := by
  unfold W32 at hx
  have h := u32_and_nat (x / 8388608) 255 (by omega) (by decide)
  have e : ((255 : Nat) : Int) = 255 := rfl
  rw [e] at h
  rw [show (x : Int) / 8388608 = ((x / 8388608 : Nat) : Int) from by omega, h, nat_mask8]; rfl
theorem fracS_bits {x : Nat} (hx : W32 x) : bits .and .u32 (x : Int) 8388607 = (fracS x : Int) := by
  have h := u32_and_nat x 8388607 hx (by decide)
  have e : ((8388607 : Nat) : Int) = 8388607 := rfl
  rw [e] at h
  rw [h, nat_mask23]; rfl
theorem expS_le (x : Nat) : expS x ≤ 255 := by unfold expS; omega
theorem fracS_lt (x : Nat) : fracS x < 8388608 := by unfold fracS; omega

def infD (neg : Bool) : Nat := if neg then 18442240474082181120 else 9218868437227405312
/-- What the reference makes of a pattern of binary32. -/
def wideR (x : Nat) : Nat :=
  if expS x = 255 then (if fracS x = 0 then infD (negS x) else 9221120237041090561)
  else if expS x = 0 then (if fracS x = 0 then 0 else madeD (negS x) (fracS x) (-149))
  else madeD (negS x) (fracS x + 8388608) ((expS x : Int) - 150)
def wideN (x : Nat) : Nat := if nanS x then 9221120237041090561 else wideR x

theorem wideN_if (x : Nat) : wideN x = if decide ((2139095040 : Int) < (x : Int) % 2147483648) = true then 9221120237041090561 else wideR x := by
  unfold wideN nanS
  by_cases h : 2139095040 < x % 2147483648
  · have h' : (2139095040 : Int) < (x : Int) % 2147483648 := by omega
    rw [decide_eq_true h, decide_eq_true h']
  · have h' : ¬ (2139095040 : Int) < (x : Int) % 2147483648 := by omega
    rw [decide_eq_false h, decide_eq_false h']

theorem wordD_lt {s : Bool} {r : Nat} (h : r < 9223372036854775808) : W64 (wordD s r) := by
  unfold wordD W64; cases s <;> simp <;> omega

theorem rungD_lt {M k : Nat} (h : M < 2 ^ (k + 53)) : rungD M < (k + 2) * 4503599627370496 := by
  unfold rungD
  have hM : M.log2 - 52 ≤ k := by
    by_cases h0 : M = 0
    · subst h0; simp
    · have := (Nat.log2_lt h0).2 h; omega
  have hd : M / 2 ^ (M.log2 - 52) < 9007199254740992 := by
    apply (Nat.div_lt_iff_lt_mul (Nat.two_pow_pos _)).2
    by_cases h1 : 52 ≤ M.log2
    · have := Nat.lt_log2_self (n := M)
      have e : (9007199254740992 : Nat) = 2 ^ 53 := by decide
      rw [e, ← Nat.pow_add, show 53 + (M.log2 - 52) = M.log2 + 1 from by omega]; exact this
    · have e : M.log2 - 52 = 0 := by omega
      have := Nat.lt_log2_self (n := M)
      rw [e]
      have h2 : 2 ^ (M.log2 + 1) ≤ 2 ^ 53 := Nat.pow_le_pow_right (by decide) (by omega)
      omega
  generalize M / 2 ^ (M.log2 - 52) = q at *
  generalize M.log2 - 52 = j at *
  by_cases hjk : j = k
  · subst hjk; omega
  · have : j + 1 ≤ k := by omega
    have : (j + 1) * 4503599627370496 ≤ k * 4503599627370496 := Nat.mul_le_mul_right _ this
    omega

theorem madeD_lt {s : Bool} {F k : Nat} {e : Int} (h : F * 2 ^ (e + 1074).toNat < 2 ^ (k + 53)) (hk : k ≤ 2000) : W64 (madeD s F e) := by
  unfold madeD
  have h1 := rungD_lt h
  generalize rungD (F * 2 ^ (e + 1074).toNat) = r at *
  apply wordD_lt
  have : (k + 2) * 4503599627370496 ≤ 2002 * 4503599627370496 := Nat.mul_le_mul_right _ (by omega)
  omega

theorem shift_lt {F j m k : Nat} (h : F < 2 ^ m) (hk : m + j = k) : F * 2 ^ j < 2 ^ k := by
  subst hk; rw [Nat.pow_add]; exact Nat.mul_lt_mul_of_pos_right h (Nat.two_pow_pos _)

theorem wideR_lt (x : Nat) : W64 (wideR x) := by
  have hE := expS_le x
  have hF := fracS_lt x
  unfold wideR
  split
  · split
    · unfold infD W64; cases negS x <;> simp
    · unfold W64; omega
  · split
    · split
      · unfold W64; omega
      · obtain ⟨K, hK⟩ : ∃ K, K = 895 := ⟨_, rfl⟩
        exact madeD_lt (k := K) (shift_lt (m := 23) hF (by omega)) (by omega)
    · exact madeD_lt (k := expS x + 895) (shift_lt (m := 24) (by omega) (by omega)) (by omega)

theorem wideN_lt {x : Nat} (_hx : W32 x) : W64 (wideN x) := by
  unfold wideN
  split
  · unfold W64; omega
  · exact wideR_lt x

/-- A store of a float into a cell. -/
@[go_sem] theorem run_store_float {P : Program} {w : World} {a : Addr} {m : Mode} (k : FloatKind) (n : Nat) : (store a (.float k n) m).run P w = stored P w a (.float k n) m := run_store P w a _ m rfl

/-- A region that draws its order: quiet operations ahead of a forced tail; the world behind the draw by its name. -/
theorem region_tail {P : Program} {id : Nat} {Q : Exit → Act → World → Prop} {a : Act} {w : World} {l : List Oper} (n : Nat) (hm : P.follows .mixedOrders = true) (hB : Region.lexTailB .any l.toArray n = true)
    (h : wpStill P l.toArray w.drew (fun a' => wpList P l.toArray Q (l.drop n) a' w.drew) (l.take n) a) : (Code.region id l.toArray true).wp P Q a w :=
  wp_region_still_tail n hm hB h

theorem wf_w32 {a : Int} (h : (Lit.int .u32 a).wf = true) : ∃ n : Nat, a = n ∧ W32 n := by
  have h' : (0 : Int) ≤ a ∧ a ≤ 4294967295 := by simpa [Lit.wf, IntKind.min, IntKind.max, IntKind.bits, IntKind.signed] using h
  exact ⟨a.toNat, by omega, by unfold W32; omega⟩
theorem wf_w64 {a : Int} (h : (Lit.int .u64 a).wf = true) : ∃ n : Nat, a = n ∧ W64 n := by
  have h' : (0 : Int) ≤ a ∧ a ≤ 18446744073709551615 := by simpa [Lit.wf, IntKind.min, IntKind.max, IntKind.bits, IntKind.signed] using h
  exact ⟨a.toNat, by omega, by unfold W64; omega⟩

/-- Two stretches, one behind the other. -/
theorem below_then {w W w1 : World} (h : Below w.heap.size w W) (hb : Below W.heap.size W w1) : Below w.heap.size w w1 := h.trans (hb.mono h.size)

/-- What was there reads as it did. -/
theorem bcell {W w1 : World} (hb : Below W.heap.size W w1) : (∀ b o, b < W.heap.size → w1.cell? ⟨b, o, none⟩ = W.cell? ⟨b, o, none⟩) ∧ (∀ b o, b < W.heap.size → w1.frozen? ⟨b, o, none⟩ = W.frozen? ⟨b, o, none⟩) :=
  ⟨fun b o h => hb.cell (p := ⟨b, o, none⟩) h, fun b o h => hb.frozen (p := ⟨b, o, none⟩) h⟩

end Go.Proofs.Ytamaeggkpdgaiaa
