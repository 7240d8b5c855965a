/- The order of the reference's bounds is the order of the patterns. Plain law. -/
import Derived.Test.YtamaeggkpdgaiaaHd
namespace Go.Proofs.Ytamaeggkpdgaiaa
open Go.RowKit

theorem end_cases {p : Nat} (hp : PlainE p) (hn : nanD p = false) :
    p = 9218868437227405312 ∨ p = 18442240474082181120 ∨ (endI p = 0 ∧ ∃ (s : Bool) (r : Nat), r < 9218868437227405312 ∧ p = wordD s r ∧ selfD s r = p ∧ kD p = (if s then -(r : Int) else (r : Int)) ∧ (s = true → r ≠ 0)) := by
  obtain ⟨hw, hpl⟩ := hp
  obtain ⟨r, hr, e | e⟩ := w64_cases hw
  · subst e
    have h1 : p ≤ 9218868437227405312 := by have := (nanD_iff hr).1; rw [hn] at this; simpa using this.symm
    by_cases he : p = 9218868437227405312
    · exact Or.inl he
    · refine Or.inr (Or.inr ⟨?_, false, p, by omega, rfl, ?_, by simp [kD_pos hr], by simp⟩)
      · unfold endI; rw [if_neg he, if_neg (by omega)]
      · unfold selfD wordD; split <;> simp_all
  · subst e
    have h1 : r ≤ 9218868437227405312 := by have := (nanD_iff hr).2; rw [hn] at this; simpa using this.symm
    by_cases he : r = 9218868437227405312
    · exact Or.inr (Or.inl (by omega))
    · have h0 : r ≠ 0 := by
        intro h; subst h
        revert hpl; decide
      refine Or.inr (Or.inr ⟨?_, true, r, by omega, rfl, ?_, by simp [kD_neg hr], fun _ => h0⟩)
      · unfold endI; rw [if_neg (by omega), if_neg (by omega)]
      · unfold selfD wordD; rw [if_neg h0]; rfl

theorem mag_inj_lt {a b : Nat} (h : a < b) : Fl.mag 52 a < Fl.mag 52 b := Fl.mag_lt h
theorem mag_zero : Fl.mag 52 0 = 0 := by unfold Fl.mag; simp
theorem mag_eq_zero {r : Nat} : Fl.mag 52 r = 0 ↔ r = 0 := by
  constructor
  · intro h
    by_cases h0 : r = 0
    · exact h0
    · have := mag_inj_lt (show 0 < r from by omega); omega
  · rintro rfl; exact mag_zero
theorem man_zero {s : Bool} {r : Nat} (hr : r < 9218868437227405312) : manB (wordD s r) = 0 ↔ r = 0 := by
  obtain ⟨h1, h2, _⟩ := parts_word (s := s) hr
  rw [h2]
  split <;> omega

set_option exponentiation.threshold 1100 in
theorem ratio_mag {s : Bool} {r : Nat} (hr : r < 9218868437227405312) :
    ratN (wordD s r) * 2 ^ 1074 = Fl.mag 52 r * ratD (wordD s r) ∧ 0 < ratD (wordD s r) ∧ wN (ratN (wordD s r)) ≤ 4294967296 ∧ wN (ratD (wordD s r)) ≤ 4294967296 ∧
      ratS (wordD s r) = (if r = 0 then false else s) := by
  obtain ⟨h1, h2, h3⟩ := parts_word (s := s) hr
  by_cases h0 : manB (wordD s r) = 0
  · have hr0 := (man_zero hr).1 h0
    have hN : ratN (wordD s r) = 0 := by unfold ratN fracN; rw [if_pos h0]
    have hD : ratD (wordD s r) = 1 := by unfold ratD fracD; rw [if_pos h0]
    have hS : ratS (wordD s r) = false := by unfold ratS; rw [if_pos h0]
    rw [hN, hD, hS, if_pos hr0, hr0, mag_zero, wN_one]
    refine ⟨by simp, by omega, by decide, by omega, rfl⟩
  · have hr0 : r ≠ 0 := fun h => h0 ((man_zero hr).2 h)
    obtain ⟨f1, f2, f3, f4, f5, f6, f7⟩ := rat_facts h0
    have hS : ratS (wordD s r) = s := by unfold ratS; rw [if_neg h0, h3]
    have hmag := man_mag (r := r)
    rw [← h2] at hmag
    have hsh : shB (wordD s r) = ((r / 4503599627370496 - 1 : Nat) : Int) - 1074 := by unfold shB; rw [h1]
    have hlm : lenN (manB (wordD s r)) ≤ 53 := by
      refine lenN_le.2 ?_
      rw [h2]; split <;> simp <;> omega
    have hDdef := ratD_def h0
    have hlD : lenN (ratD (wordD s r)) ≤ 1075 := by
      rw [hDdef, len_pow]; omega
    have hlN : lenN (ratN (wordD s r)) ≤ 4000 := by omega
    refine ⟨?_, by omega, by rw [wN_len]; omega, by rw [wN_len]; omega, by rw [hS, if_neg hr0]⟩
    generalize ratN (wordD s r) = N at *
    generalize ratD (wordD s r) = D at *
    generalize manB (wordD s r) = m at *
    generalize shB (wordD s r) = sh at *
    by_cases hs : 0 ≤ sh
    · have := f6 sh.toNat (by omega)
      rw [this, ← hmag, Nat.mul_assoc, Nat.mul_assoc, ← Nat.pow_add, show sh.toNat + 1074 = r / 4503599627370496 - 1 from by omega, Nat.mul_assoc, Nat.mul_comm D]
    · have := f7 (-sh).toNat (by omega)
      rw [← hmag, show (2 : Nat) ^ 1074 = 2 ^ (-sh).toNat * 2 ^ (r / 4503599627370496 - 1) from by rw [← Nat.pow_add]; congr 1; omega, ← Nat.mul_assoc, this, Nat.mul_assoc, Nat.mul_assoc, Nat.mul_comm D]

theorem cross_lt {N1 D1 N2 D2 M1 M2 K : Nat} (hK : 0 < K) (h1 : N1 * K = M1 * D1) (h2 : N2 * K = M2 * D2) (d1 : 0 < D1) (d2 : 0 < D2) : N1 * D2 < N2 * D1 ↔ M1 < M2 := by
  have e1 : N1 * D2 * K = M1 * (D1 * D2) := by rw [Nat.mul_right_comm, h1, Nat.mul_assoc]
  have e2 : N2 * D1 * K = M2 * (D1 * D2) := by rw [Nat.mul_right_comm, h2, Nat.mul_assoc, Nat.mul_comm D2]
  have hp : 0 < D1 * D2 := Nat.mul_pos d1 d2
  rw [← Nat.mul_lt_mul_right hK, e1, e2, Nat.mul_lt_mul_right hp]

/-- The sign of a comparison. -/
def sgnI (a b : Int) : Int := if a < b then -1 else if b < a then 1 else 0

set_option exponentiation.threshold 1100 in
theorem rcmp_words {s1 s2 : Bool} {r1 r2 : Nat} (h1 : r1 < 9218868437227405312) (h2 : r2 < 9218868437227405312) (z1 : s1 = true → r1 ≠ 0) (z2 : s2 = true → r2 ≠ 0) :
    rcmpN (ratS (wordD s1 r1)) (ratN (wordD s1 r1)) (ratD (wordD s1 r1)) (ratS (wordD s2 r2)) (ratN (wordD s2 r2)) (ratD (wordD s2 r2)) = sgnI (if s1 then -(r1 : Int) else (r1 : Int)) (if s2 then -(r2 : Int) else (r2 : Int)) := by
  obtain ⟨a1, a2, a3, a4, a5⟩ := ratio_mag (s := s1) h1
  obtain ⟨b1, b2, b3, b4, b5⟩ := ratio_mag (s := s2) h2
  have K : 0 < 2 ^ 1074 := Nat.two_pow_pos _
  have c12 := cross_lt K a1 b1 a2 b2
  have c21 := cross_lt K b1 a1 b2 a2
  have n1 : ratN (wordD s1 r1) = 0 ↔ r1 = 0 := by
    rw [← mag_eq_zero (r := r1)]
    generalize Fl.mag 52 r1 = M at *
    generalize 2 ^ 1074 = KK at *
    generalize ratN (wordD s1 r1) = N at *
    generalize ratD (wordD s1 r1) = D at *
    clear c12 c21
    constructor
    · intro h; subst h; rw [Nat.zero_mul] at a1; exact (Nat.mul_eq_zero.1 a1.symm).resolve_right (by omega)
    · intro h; subst h; rw [Nat.zero_mul] at a1; exact (Nat.mul_eq_zero.1 a1).resolve_right (by omega)
  have n2 : ratN (wordD s2 r2) = 0 ↔ r2 = 0 := by
    rw [← mag_eq_zero (r := r2)]
    generalize Fl.mag 52 r2 = M at *
    generalize 2 ^ 1074 = KK at *
    generalize ratN (wordD s2 r2) = N at *
    generalize ratD (wordD s2 r2) = D at *
    clear c12 c21
    constructor
    · intro h; subst h; rw [Nat.zero_mul] at b1; exact (Nat.mul_eq_zero.1 b1.symm).resolve_right (by omega)
    · intro h; subst h; rw [Nat.zero_mul] at b1; exact (Nat.mul_eq_zero.1 b1).resolve_right (by omega)
  have m12 : Fl.mag 52 r1 < Fl.mag 52 r2 ↔ r1 < r2 := by
    constructor
    · intro h
      rcases Nat.lt_trichotomy r1 r2 with q | q | q
      · exact q
      · subst q; omega
      · have := mag_inj_lt q; omega
    · exact mag_inj_lt
  have m21 : Fl.mag 52 r2 < Fl.mag 52 r1 ↔ r2 < r1 := by
    constructor
    · intro h
      rcases Nat.lt_trichotomy r1 r2 with q | q | q
      · have := mag_inj_lt q; omega
      · subst q; omega
      · exact q
    · exact mag_inj_lt
  rw [m12] at c12
  rw [m21] at c21
  clear a1 b1 a3 a4 b3 b4 m12 m21 K
  rw [a5, b5]
  clear a5 b5
  have hc : cmpN (ratN (wordD s1 r1) * ratD (wordD s2 r2)) (ratN (wordD s2 r2) * ratD (wordD s1 r1)) = if r1 < r2 then -1 else if r2 < r1 then 1 else 0 := by unfold cmpN; simp only [c12, c21]
  unfold rcmpN
  rw [hc]
  clear hc c12 c21 a2 b2
  generalize ratN (wordD s1 r1) = N1 at *
  generalize ratN (wordD s2 r2) = N2 at *
  have g1 : rsg (if r1 = 0 then false else s1) N1 = if r1 = 0 then 0 else if s1 then -1 else 1 := by
    unfold rsg; simp only [n1]; by_cases h : r1 = 0 <;> simp [h]
  have g2 : rsg (if r2 = 0 then false else s2) N2 = if r2 = 0 then 0 else if s2 then -1 else 1 := by
    unfold rsg; simp only [n2]; by_cases h : r2 = 0 <;> simp [h]
  unfold sgnI
  rw [g1, g2]
  clear g1 g2 n1 n2
  by_cases e1 : r1 = 0
  · subst e1
    have : s1 = false := by cases s1 <;> simp_all
    subst this
    by_cases e2 : r2 = 0
    · subst e2
      have : s2 = false := by cases s2 <;> simp_all
      subst this; simp
    · cases s2 <;> simp [e2] <;> (repeat' split) <;> omega
  · by_cases e2 : r2 = 0
    · subst e2
      have : s2 = false := by cases s2 <;> simp_all
      subst this
      cases s1 <;> simp [e1] <;> (repeat' split) <;> omega
    · rcases Nat.lt_trichotomy r1 r2 with h | h | h
      · cases s1 <;> cases s2 <;> simp [e1, e2, h] <;> (repeat' split) <;> omega
      · subst h; cases s1 <;> cases s2 <;> simp [e1] <;> (repeat' split) <;> omega
      · have h' : ¬ r1 < r2 := by omega
        cases s1 <;> cases s2 <;> simp [e1, e2, h, h'] <;> (repeat' split) <;> omega

theorem ecmp_sign {p q : Nat} (hp : PlainE p) (hq : PlainE q) (np : nanD p = false) (nq : nanD q = false) : ecmp p q = sgnI (kD p) (kD q) := by
  have hI : endI 9218868437227405312 = 1 := rfl
  have hM : endI 18442240474082181120 = -1 := by decide
  have kI : kD 9218868437227405312 = 9218868437227405312 := kD_pos (by decide)
  have kM : kD 18442240474082181120 = -9218868437227405312 := kD_neg (x := 9218868437227405312) (by decide)
  unfold ecmp
  rcases end_cases hp np with rfl | rfl | ⟨i1, s1, r1, l1, e1, f1, k1, z1⟩ <;> rcases end_cases hq nq with rfl | rfl | ⟨i2, s2, r2, l2, e2, f2, k2, z2⟩
  · rw [hI]; unfold sgnI; simp
  · rw [hI, hM, kI, kM]; decide
  · rw [hI, i2, kI, k2]; unfold sgnI; simp; split <;> (repeat' split) <;> omega
  · rw [hI, hM, kI, kM]; decide
  · rw [hM]; unfold sgnI; simp
  · rw [hM, i2, kM, k2]; unfold sgnI; simp; split <;> (repeat' split) <;> omega
  · rw [hI, i1, kI, k1]; unfold sgnI; simp; split <;> (repeat' split) <;> omega
  · rw [hM, i1, kM, k1]; unfold sgnI; simp; split <;> (repeat' split) <;> omega
  · rw [i1, i2]
    simp only [Int.lt_irrefl, if_false, if_true]
    obtain ⟨g1, g2, g3⟩ := end_fin i1
    obtain ⟨g4, g5, g6⟩ := end_fin i2
    rw [g1, g2, g3, g4, g5, g6, e1, e2, rcmp_words l1 l2 z1 z2, ← e1, ← e2, k1, k2]

theorem min_key {p q : Nat} (hp : PlainE p) (hq : PlainE q) (np : nanD p = false) (nq : nanD q = false) : minE p q = if kD q < kD p then q else p := by
  unfold minE
  rw [ecmp_sign hq hp nq np]
  unfold sgnI
  by_cases h : kD q < kD p
  · simp [h]
  · by_cases h2 : kD p < kD q <;> simp [h, h2]
theorem max_key {p q : Nat} (hp : PlainE p) (hq : PlainE q) (np : nanD p = false) (nq : nanD q = false) : maxE p q = if kD p < kD q then q else p := by
  unfold maxE
  rw [ecmp_sign hq hp nq np]
  unfold sgnI
  by_cases h : kD p < kD q
  · have : ¬ kD q < kD p := by omega
    simp [h, this]
  · by_cases h2 : kD q < kD p <;> simp [h, h2]

theorem end_words {p : Nat} (hp : PlainE p) (hn : nanD p = false) : wN (endN p) ≤ 4294967296 ∧ wN (endD p) ≤ 4294967296 := by
  rcases end_cases hp hn with rfl | rfl | ⟨i1, s1, r1, l1, e1, f1, k1, z1⟩
  · obtain ⟨_, h2, h3⟩ := end_inf (p := 9218868437227405312) (by decide)
    rw [h2, h3, wN_one]; exact ⟨by decide, by decide⟩
  · obtain ⟨_, h2, h3⟩ := end_inf (p := 18442240474082181120) (by decide)
    rw [h2, h3, wN_one]; exact ⟨by decide, by decide⟩
  · obtain ⟨g1, g2, g3⟩ := end_fin i1
    rw [g2, g3, e1]
    obtain ⟨_, _, h3, h4, _⟩ := ratio_mag (s := s1) l1
    exact ⟨h3, h4⟩

end Go.Proofs.Ytamaeggkpdgaiaa
