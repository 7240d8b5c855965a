/- The reading of intervals, by the order of keys. No program in sight. -/
import Derived.Test.YtamaeggkpdgaiaaFb
import Derived.Test.YtamaeggkpdgaiaaFl
namespace Go.Proofs.Ytamaeggkpdgaiaa
open Go.RowKit
open Ieee (single double)

theorem nanD_eq {x : Nat} : nanD x = Fl.nan double x := by
  unfold nanD Fl.nan Fl.rung; rw [Fl.infRung_double, Fl.signWeight_double]
theorem nanS_eq {x : Nat} : nanS x = Fl.nan single x := by
  unfold nanS Fl.nan Fl.rung; rw [Fl.infRung_single, Fl.signWeight_single]

/-- The keys of words: the rungs with their signs. -/
def kD (x : Nat) : Int := Fl.key double x
def kS (x : Nat) : Int := Fl.key single x

theorem kD_pos {x : Nat} (h : x < 9223372036854775808) : kD x = x := by
  unfold kD Fl.key Fl.sgn Fl.neg Fl.rung
  rw [Fl.signWeight_double, Nat.div_eq_of_lt h, Nat.mod_eq_of_lt h]; rfl
theorem kD_neg {x : Nat} (h : x < 9223372036854775808) : kD (x + 9223372036854775808) = -(x : Int) := by
  unfold kD Fl.key Fl.sgn Fl.neg Fl.rung
  rw [Fl.signWeight_double, show (x + 9223372036854775808) / 9223372036854775808 = 1 from by omega, show (x + 9223372036854775808) % 9223372036854775808 = x from by omega]; rfl
theorem kS_pos {x : Nat} (h : x < 2147483648) : kS x = x := by
  unfold kS Fl.key Fl.sgn Fl.neg Fl.rung
  rw [Fl.signWeight_single, Nat.div_eq_of_lt h, Nat.mod_eq_of_lt h]; rfl
theorem kS_neg {x : Nat} (h : x < 2147483648) : kS (x + 2147483648) = -(x : Int) := by
  unfold kS Fl.key Fl.sgn Fl.neg Fl.rung
  rw [Fl.signWeight_single, show (x + 2147483648) / 2147483648 = 1 from by omega, show (x + 2147483648) % 2147483648 = x from by omega]; rfl

/-- A word is a rung, or one below the sign. -/
theorem w64_cases {x : Nat} (h : W64 x) : ∃ r, r < 9223372036854775808 ∧ (x = r ∨ x = r + 9223372036854775808) := by
  unfold W64 at h
  by_cases h1 : x < 9223372036854775808
  · exact ⟨x, h1, Or.inl rfl⟩
  · exact ⟨x - 9223372036854775808, by omega, Or.inr (by omega)⟩
theorem w32_cases {x : Nat} (h : W32 x) : ∃ r, r < 2147483648 ∧ (x = r ∨ x = r + 2147483648) := by
  unfold W32 at h
  by_cases h1 : x < 2147483648
  · exact ⟨x, h1, Or.inl rfl⟩
  · exact ⟨x - 2147483648, by omega, Or.inr (by omega)⟩

theorem order_f64 {x y : Nat} (hx : nanD x = false) (hy : nanD y = false) : FloatKind.f64.format.order x y = some (compare (kD x) (kD y)) :=
  Fl.order_key Fl.fit_double (by rw [← nanD_eq]; exact hx) (by rw [← nanD_eq]; exact hy)
theorem order_f64_nan {x y : Nat} (h : nanD x = true ∨ nanD y = true) : FloatKind.f64.format.order x y = none :=
  Fl.order_nan Fl.fit_double (by rw [← nanD_eq, ← nanD_eq]; exact h)
theorem order_f32 {x y : Nat} (hx : nanS x = false) (hy : nanS y = false) : FloatKind.f32.format.order x y = some (compare (kS x) (kS y)) :=
  Fl.order_key Fl.fit_single (by rw [← nanS_eq]; exact hx) (by rw [← nanS_eq]; exact hy)
theorem order_f32_nan {x y : Nat} (h : nanS x = true ∨ nanS y = true) : FloatKind.f32.format.order x y = none :=
  Fl.order_nan Fl.fit_single (by rw [← nanS_eq, ← nanS_eq]; exact h)

theorem ord_lt (a b : Int) : (some (compare a b) == some Ordering.lt) = decide (a < b) := by
  rcases Int.lt_trichotomy a b with h | h | h
  · rw [Fl.compare_lt h]; simp [h]
  · rw [Fl.compare_eq h]; subst h; simp
  · rw [Fl.compare_gt h, decide_eq_false (by omega)]; rfl
theorem ord_eq (a b : Int) : (some (compare a b) == some Ordering.eq) = decide (a = b) := by
  rcases Int.lt_trichotomy a b with h | h | h
  · rw [Fl.compare_lt h, decide_eq_false (by omega)]; rfl
  · rw [Fl.compare_eq h]; simp [h]
  · rw [Fl.compare_gt h, decide_eq_false (by omega)]; rfl
theorem ord_gt (a b : Int) : (some (compare a b) == some Ordering.gt) = decide (b < a) := by
  rcases Int.lt_trichotomy a b with h | h | h
  · rw [Fl.compare_lt h, decide_eq_false (by omega)]; rfl
  · rw [Fl.compare_eq h, decide_eq_false (by omega)]; rfl
  · rw [Fl.compare_gt h]; simp [h]

theorem leqF_f64 (x y : Nat) : leqF .f64 x y = (!nanD x && !nanD y && decide (kD x ≤ kD y)) := by
  unfold leqF
  cases hx : nanD x
  · cases hy : nanD y
    · rw [order_f64 hx hy, ord_lt, ord_eq]
      rw [Bool.eq_iff_iff]; (simp <;> omega)
    · rw [order_f64_nan (Or.inr hy)]; rfl
  · rw [order_f64_nan (Or.inl hx)]; rfl
theorem leqF_f32 (x y : Nat) : leqF .f32 x y = (!nanS x && !nanS y && decide (kS x ≤ kS y)) := by
  unfold leqF
  cases hx : nanS x
  · cases hy : nanS y
    · rw [order_f32 hx hy, ord_lt, ord_eq]
      rw [Bool.eq_iff_iff]; (simp <;> omega)
    · rw [order_f32_nan (Or.inr hy)]; rfl
  · rw [order_f32_nan (Or.inl hx)]; rfl

theorem nanD_iff {r : Nat} (h : r < 9223372036854775808) : nanD r = decide (9218868437227405312 < r) ∧ nanD (r + 9223372036854775808) = decide (9218868437227405312 < r) := by
  unfold nanD
  rw [Nat.mod_eq_of_lt h, show (r + 9223372036854775808) % 9223372036854775808 = r from by omega]; exact ⟨rfl, rfl⟩
theorem nanS_iff {r : Nat} (h : r < 2147483648) : nanS r = decide (2139095040 < r) ∧ nanS (r + 2147483648) = decide (2139095040 < r) := by
  unfold nanS
  rw [Nat.mod_eq_of_lt h, show (r + 2147483648) % 2147483648 = r from by omega]; exact ⟨rfl, rfl⟩

theorem kD_bounds {x : Nat} (hx : W64 x) (h : nanD x = false) : -9218868437227405312 ≤ kD x ∧ kD x ≤ 9218868437227405312 := by
  obtain ⟨r, hr, rfl | rfl⟩ := w64_cases hx
  · rw [(nanD_iff hr).1] at h; have := of_decide_eq_false h; rw [kD_pos hr]; omega
  · rw [(nanD_iff hr).2] at h; have := of_decide_eq_false h; rw [kD_neg hr]; omega

/-- Is it the greatest word, +Inf? -/
theorem infPosD_eq {x : Nat} (hx : W64 x) : infPosD x = decide (x = 9218868437227405312) := by
  unfold infPosD
  cases hn : nanD x
  · rw [order_f64 hn (by decide), ord_gt, kD_pos (by decide)]
    have hb := kD_bounds hx hn
    obtain ⟨r, hr, rfl | rfl⟩ := w64_cases hx
    · rw [kD_pos hr] at *; rw [Bool.eq_iff_iff]; (simp <;> omega)
    · rw [kD_neg hr] at *; rw [Bool.eq_iff_iff]; (simp <;> omega)
  · rw [order_f64_nan (Or.inl hn)]
    have : x ≠ 9218868437227405312 := by rintro rfl; revert hn; decide
    simp [this]

theorem negF_f64 {r : Nat} (h : r < 9223372036854775808) : negF .f64 r = r + 9223372036854775808 ∧ negF .f64 (r + 9223372036854775808) = r := by
  have e : FloatKind.f64.format.exponentBits + FloatKind.f64.format.fractionBits = 63 := rfl
  have e2 : (9223372036854775808 : Nat) = 2 ^ 63 := by decide
  unfold negF Op.negFloat
  rw [e, e2]
  have h' : r < 2 ^ 63 := h
  have h1 : r ^^^ 2 ^ 63 = r + 2 ^ 63 := by
    have ho := Nat.two_pow_add_eq_or_of_lt h' 1
    rw [Nat.mul_one] at ho
    rw [Nat.add_comm, ho]
    apply Nat.eq_of_testBit_eq
    intro i
    rw [Nat.testBit_xor, Nat.testBit_or, Nat.testBit_two_pow]
    by_cases hi : 63 = i
    · subst hi; rw [Nat.testBit_lt_two_pow h']; rfl
    · simp [hi]
  refine ⟨h1, ?_⟩
  rw [← h1, Nat.xor_assoc, Nat.xor_self, Nat.xor_zero]

theorem infNegD_eq {x : Nat} (hx : W64 x) : infNegD x = decide (x = 18442240474082181120) := by
  unfold infNegD
  obtain ⟨r, hr, rfl | rfl⟩ := w64_cases hx
  · rw [(negF_f64 hr).1, infPosD_eq (by unfold W64; omega), Bool.eq_iff_iff]; (simp <;> omega)
  · rw [(negF_f64 hr).2, infPosD_eq (by unfold W64; omega), Bool.eq_iff_iff]; (simp <;> omega)

theorem plainD_pos {r : Nat} (hr : r < 9223372036854775808) (hn : nanD r = false) : plainD r = r := by
  unfold plainD; rw [if_neg (by omega), hn]; rfl
theorem plainD_neg {r : Nat} (hr : r < 9223372036854775808) (hn : nanD (r + 9223372036854775808) = false) : plainD (r + 9223372036854775808) = if r = 0 then 0 else r + 9223372036854775808 := by
  unfold plainD
  by_cases h : r = 0
  · subst h; rfl
  · rw [if_neg (by omega), hn, if_neg h]; rfl

theorem keyD_eq {x : Nat} (hx : W64 x) (hn : nanD x = false) : (keyD x : Int) = 9223372036854775808 + kD x - (if kD x < 0 then 1 else 0) := by
  unfold keyD
  obtain ⟨r, hr, rfl | rfl⟩ := w64_cases hx
  · rw [plainD_pos hr hn, kD_pos hr, if_neg (by omega), if_neg (by omega)]; omega
  · rw [plainD_neg hr hn, kD_neg hr]
    by_cases h : r = 0
    · subst h; decide
    · rw [if_neg h, if_pos (by omega), if_pos (by omega)]; omega

theorem aboveD_eq {x y : Nat} (hx : W64 x) (hy : W64 y) : aboveD x y = (!nanD x && !nanD y && decide (kD y < kD x)) := by
  unfold aboveD
  cases h1 : nanD x
  · cases h2 : nanD y
    · have e1 := keyD_eq hx h1
      have e2 := keyD_eq hy h2
      rw [Bool.eq_iff_iff]
      simp
      split at e1 <;> split at e2 <;> omega
    · rfl
  · rfl

theorem soundD_eq {lo hi : Nat} (h1 : W64 lo) (h2 : W64 hi) : soundD lo hi = (leqF .f64 lo hi && decide (lo ≠ 9218868437227405312) && decide (hi ≠ 18442240474082181120)) := by
  unfold soundD
  rw [leqF_f64, aboveD_eq h1 h2]
  have e1 : ((lo : Int) != 9218868437227405312) = decide (lo ≠ 9218868437227405312) := by rw [Bool.eq_iff_iff]; (simp <;> omega)
  have e2 : ((hi : Int) != 18442240474082181120) = decide (hi ≠ 18442240474082181120) := by rw [Bool.eq_iff_iff]; (simp <;> omega)
  rw [e1, e2]
  cases nanD lo <;> cases nanD hi <;> simp
  congr 2
  rw [Bool.eq_iff_iff]; simp

end Go.Proofs.Ytamaeggkpdgaiaa
