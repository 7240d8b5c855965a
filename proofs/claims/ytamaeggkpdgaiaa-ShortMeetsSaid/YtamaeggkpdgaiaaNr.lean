/- A number of binary64 is the rounding of its own ratio. Plain law, and the walk of Bits. -/
import Derived.Test.YtamaeggkpdgaiaaNq
import Derived.Test.YtamaeggkpdgaiaaFd
namespace Go.Proofs.Ytamaeggkpdgaiaa
open Go.RowKit

theorem tz_one : tz 1 = 0 := tz_odd rfl
theorem ratN_def {b : Nat} (h : manB b ≠ 0) : ratN b = manB b / 2 ^ tz (manB b) * 2 ^ (shB b + (tz (manB b) : Int)).toNat := by
  unfold ratN fracN fracE
  rw [if_neg h, tz_one]; simp
theorem ratD_def {b : Nat} (h : manB b ≠ 0) : ratD b = 2 ^ (-(shB b + (tz (manB b) : Int))).toNat := by
  unfold ratD fracD fracE
  rw [if_neg h, tz_one]; simp

theorem len_pow (k : Nat) : lenN (2 ^ k) = k + 1 := lenN_eq (Nat.le_refl _) (Nat.pow_lt_pow_right (by decide) (by omega))

/-- The ratio's length, and that it is the significand times a power. -/
theorem rat_facts {b : Nat} (h : manB b ≠ 0) :
    ratN b ≠ 0 ∧ ratD b ≠ 0 ∧ (lenN (ratN b) : Int) - (lenN (ratD b) : Int) = (lenN (manB b) : Int) - 1 + shB b ∧
    (∀ k : Nat, (lenN (ratN b) : Int) - (lenN (ratD b) : Int) = (k : Int) → ratD b * 2 ^ k ≤ ratN b) ∧
    (∀ k : Nat, (lenN (ratN b) : Int) - (lenN (ratD b) : Int) = -(k : Int) → ratD b ≤ ratN b * 2 ^ k) ∧
    (∀ q : Nat, shB b = (q : Int) → ratN b = manB b * (ratD b * 2 ^ q)) ∧ (∀ q : Nat, shB b = -(q : Int) → ratN b * 2 ^ q = manB b * ratD b) := by
  rw [ratN_def h, ratD_def h]
  obtain ⟨o, ho, hodd⟩ := tz_spec _ h
  have hdiv : manB b / 2 ^ tz (manB b) = o := by
    conv => lhs; rw [ho]
    rw [tz_unique rfl hodd]
    exact Nat.mul_div_cancel _ (Nat.two_pow_pos _)
  rw [hdiv]
  generalize hsm : shB b = sh at *
  generalize htt : tz (manB b) = t at *
  generalize manB b = m at *
  have ho0 : o ≠ 0 := by omega
  have hlm : lenN m = lenN o + t := by rw [ho, lenN_mul_pow ho0]
  obtain ⟨P, Q, hP, hQ, hE⟩ : ∃ P Q : Nat, (sh + (t : Int)).toNat = P ∧ (-(sh + (t : Int))).toNat = Q ∧ sh + (t : Int) = (P : Int) - (Q : Int) := ⟨_, _, rfl, rfl, by omega⟩
  rw [hP, hQ]
  have hlo := lenN_pos ho0
  have hl1 : lenN (o * 2 ^ P) = lenN o + P := lenN_mul_pow ho0
  have hl2 := len_pow Q
  have hNle : 2 ^ (lenN o - 1 + P) ≤ o * 2 ^ P := by rw [Nat.pow_add]; exact Nat.mul_le_mul_right _ (two_pow_le_of_len ho0)
  rw [hl1, hl2]
  refine ⟨Nat.mul_ne_zero ho0 (Nat.ne_of_gt (Nat.two_pow_pos _)), Nat.ne_of_gt (Nat.two_pow_pos _), by omega, ?_, ?_, ?_, ?_⟩
  · intro k hk
    rw [← Nat.pow_add]
    exact Nat.le_trans (Nat.pow_le_pow_right (by decide) (by omega)) hNle
  · intro k hk
    rw [Nat.mul_assoc, ← Nat.pow_add]
    have : 2 ^ (lenN o - 1 + (P + k)) ≤ o * 2 ^ (P + k) := by rw [Nat.pow_add]; exact Nat.mul_le_mul_right _ (two_pow_le_of_len ho0)
    exact Nat.le_trans (Nat.pow_le_pow_right (by decide) (by omega)) this
  · intro q hq
    rw [ho, Nat.mul_assoc, ← Nat.pow_add, ← Nat.pow_add]
    congr 2; omega
  · intro q hq
    rw [ho, Nat.mul_assoc, Nat.mul_assoc, ← Nat.pow_add, ← Nat.pow_add]
    congr 2; omega

/-- The parts of a number of binary64. -/
theorem parts_word {s : Bool} {r : Nat} (hr : r < 9218868437227405312) :
    expB (wordD s r) = r / 4503599627370496 ∧ manB (wordD s r) = r % 4503599627370496 + (if r / 4503599627370496 = 0 then 0 else 4503599627370496) ∧ sgnB (wordD s r) = s := by
  have h1 : expB (wordD s r) = r / 4503599627370496 := by unfold expB wordD; cases s <;> simp <;> omega
  refine ⟨h1, ?_, ?_⟩
  · unfold manB; rw [h1]; congr 1
    unfold wordD; cases s <;> simp <;> omega
  · unfold sgnB wordD; cases s <;> simp <;> omega
theorem man_mag {r : Nat} : (r % 4503599627370496 + (if r / 4503599627370496 = 0 then 0 else 4503599627370496)) * 2 ^ (r / 4503599627370496 - 1) = Fl.mag 52 r := by
  unfold Fl.mag
  have e : (2 : Nat) ^ 52 = 4503599627370496 := by decide
  rw [e]
  by_cases h : r < 4503599627370496
  · rw [if_pos h, if_pos (by omega), show r / 4503599627370496 - 1 = 0 from by omega]; simp; omega
  · rw [if_neg h, if_neg (by omega), Nat.add_comm (r % 4503599627370496)]
theorem rungD_mag (r : Nat) : rungD (Fl.mag 52 r) = r := by
  rw [rungD_flr]
  exact Fl.flr_unique (by simp) (by simp; exact Fl.mag_lt (by omega))
theorem madeD_parts {s : Bool} {r : Nat} (hr : r < 9218868437227405312) : madeD s (manB (wordD s r)) (shB (wordD s r)) = wordD s r := by
  obtain ⟨h1, h2, _⟩ := parts_word (s := s) hr
  unfold madeD
  rw [h2]
  have : (shB (wordD s r) + 1074).toNat = r / 4503599627370496 - 1 := by unfold shB; rw [h1]; omega
  rw [this, man_mag, rungD_mag]

set_option maxRecDepth 100000 in
set_option maxHeartbeats 1000000 in
theorem rounded_zero (d : Int) (s : Bool) (A1 A2 : Option Addr) (n1 c1 n2 c2 : Nat) (w : World) (l1 : n1 ≤ 4294967296) (h1 : NumR w w.heap.size A1 n1 0) :
    Calls Try.prog 112 #[.int .i64 d, .agg #[.bool s, .slice A1 n1 c1, .slice A2 n2 c2], .int .i64 53, .int .i64 1023] w fun en w' => en = .returned (.int .u64 0) ∧ Below w.heap.size w w' := by
  have H1 := Lib.hid h1; clear h1
  have HG : Hid (rsg s 0 = 0) := Lib.hid rfl
  go_enter Try.func112, Try.ntmps112
  go_wp2_with fail
  have HB0 : Hid (Below w.heap.size w (w.alloc (.cells #[.bool s, .slice A1 n1 c1, .slice A2 n2 c2] 108))) := Lib.hid ((Below.refl _ _).alloc (Nat.le_refl _) _)
  refine (rsign_any s A1 A2 n1 c1 n2 c2 0 _ (by omega) (H1.out.next HB0.out)).mono ?_
  rintro e1 w1 ⟨rfl, hb1⟩
  rw [HG.out]
  have HB1 := Lib.hid (below_then HB0.out hb1); clear hb1
  go_wp2
  go_ret
  exact ⟨rfl, HB1.out⟩

/-- A number of binary64, its zero plain. -/
def selfD (s : Bool) (r : Nat) : Nat := if r = 0 then 0 else wordD s r
theorem rounded_self (d : Int) (s : Bool) (r : Nat) (A1 A2 : Option Addr) (n1 c1 n2 c2 : Nat) (w : World) (hd : d = 1 ∨ d = -1) (hr : r < 9218868437227405312) (l1 : n1 ≤ 4294967296) (l2 : n2 ≤ 4294967296)
    (h1 : NumR w w.heap.size A1 n1 (ratN (wordD s r))) (h2 : NumR w w.heap.size A2 n2 (ratD (wordD s r))) :
    Calls Try.prog 112 #[.int .i64 d, .agg #[.bool (ratS (wordD s r)), .slice A1 n1 c1, .slice A2 n2 c2], .int .i64 53, .int .i64 1023] w fun en w' => en = .returned (.int .u64 (selfD s r : Int)) ∧ Below w.heap.size w w' := by
  obtain ⟨p1, p2, p3⟩ := parts_word (s := s) hr
  by_cases h0 : r = 0
  · subst h0
    have hN : ratN (wordD s 0) = 0 := by
      have hm : manB (wordD s 0) = 0 := by rw [p2]; rfl
      unfold ratN fracN; rw [if_pos hm]
    rw [hN] at h1
    have := rounded_zero d (ratS (wordD s 0)) A1 A2 n1 c1 n2 c2 w l1 h1
    exact this
  · have hself : selfD s r = wordD s r := by unfold selfD; rw [if_neg h0]
    rw [hself]
    clear hself
    have hm : manB (wordD s r) ≠ 0 := by rw [p2]; split <;> omega
    have hS : ratS (wordD s r) = s := by unfold ratS; rw [if_neg hm, p3]
    obtain ⟨f1, f2, f3, f4, f5, f6, f7⟩ := rat_facts hm
    have hmade := madeD_parts (s := s) hr
    have hml : manB (wordD s r) < 9007199254740992 := by rw [p2]; split <;> omega
    have hsh : shB (wordD s r) = ((r / 4503599627370496 - 1 : Nat) : Int) - 1074 := by unfold shB; rw [p1]
    have hlen : lenN (manB (wordD s r)) ≤ 53 := lenN_le.2 (by simpa using hml)
    have hlp := lenN_pos hm
    have hnorm : r / 4503599627370496 ≠ 0 → lenN (manB (wordD s r)) = 53 := fun h => lenN_eq (by rw [p2, if_neg h]; simp) (by simpa using hml)
    have hsub : r / 4503599627370496 = 0 → lenN (manB (wordD s r)) ≤ 52 := fun h => lenN_le.2 (by rw [p2, if_pos h]; simp; omega)
    rw [hS]
    have hms : 0 < manB (wordD s r) := Nat.pos_of_ne_zero hm
    clear hS p1 p2 p3
    generalize wordD s r = b at *
    rw [← hmade]
    rcases Int.lt_or_le (shB b) 0 with hneg | hpos
    · obtain ⟨q, hq⟩ : ∃ q : Nat, shB b = -(q : Int) := ⟨(-shB b).toNat, by omega⟩
      have hex := f7 q hq
      rcases Int.lt_or_le ((lenN (ratN b) : Int) - (lenN (ratD b) : Int)) 0 with hf | hf
      · obtain ⟨k, hk⟩ : ∃ k : Nat, (lenN (ratN b) : Int) - (lenN (ratD b) : Int) = -(k : Int) := ⟨(-((lenN (ratN b) : Int) - (lenN (ratD b) : Int))).toNat, by omega⟩
        rw [hq]
        refine rounded_low d s A1 A2 n1 c1 n2 c2 (ratN b) (ratD b) (manB b) k q w hd l1 l2 h1 h2 f1 f2 hk (by omega) (by omega) (f5 k hk) ?_ hms hml hex
        by_cases hz : r / 4503599627370496 = 0
        · have := hsub hz; omega
        · have := hnorm hz; omega
      · obtain ⟨k, hk⟩ : ∃ k : Nat, (lenN (ratN b) : Int) - (lenN (ratD b) : Int) = (k : Int) := ⟨((lenN (ratN b) : Int) - (lenN (ratD b) : Int)).toNat, by omega⟩
        rw [hq]
        refine rounded_mid d s A1 A2 n1 c1 n2 c2 (ratN b) (ratD b) (manB b) k q w hd l1 l2 h1 h2 f1 f2 hk (f4 k hk) ?_ (by omega) hms hml hex
        by_cases hz : r / 4503599627370496 = 0
        · have := hsub hz; omega
        · have := hnorm hz; omega
    · obtain ⟨q, hq⟩ : ∃ q : Nat, shB b = (q : Int) := ⟨(shB b).toNat, by omega⟩
      have hz : r / 4503599627370496 ≠ 0 := by omega
      have hl53 := hnorm hz
      obtain ⟨k, hk⟩ : ∃ k : Nat, (lenN (ratN b) : Int) - (lenN (ratD b) : Int) = (k : Int) := ⟨((lenN (ratN b) : Int) - (lenN (ratD b) : Int)).toNat, by omega⟩
      exact rounded_int d s A1 A2 n1 c1 n2 c2 (ratN b) (ratD b) (manB b) k (shB b) w hd l1 l2 h1 h2 f1 f2 hk (by omega) (by omega) (f4 k hk) (by omega) (by omega) hms hml (by rw [hq]; exact f6 q hq)

set_option maxRecDepth 100000 in
set_option maxHeartbeats 1000000 in
theorem bits_self (d : Int) (s : Bool) (r : Nat) (A1 A2 : Option Addr) (n1 c1 n2 c2 : Nat) (w : World) (hd : d = 1 ∨ d = -1) (hr : r < 9218868437227405312) (l1 : n1 ≤ 4294967296) (l2 : n2 ≤ 4294967296)
    (h1 : NumR w w.heap.size A1 n1 (ratN (wordD s r))) (h2 : NumR w w.heap.size A2 n2 (ratD (wordD s r))) :
    Calls Try.prog 100 #[.int .i64 d, .agg #[.bool (ratS (wordD s r)), .slice A1 n1 c1, .slice A2 n2 c2]] w fun en w' => en = .returned (.int .u64 (selfD s r : Int)) ∧ Below w.heap.size w w' := by
  have H1 := Lib.hid h1; have H2 := Lib.hid h2; have HD := Lib.hid hd; clear h1 h2 hd
  generalize hS : ratS (wordD s r) = S at *
  have HS := Lib.hid hS; clear hS
  go_enter Try.func100, Try.ntmps100
  go_wp2_with fail
  have HB0 : Hid (Below w.heap.size w (w.alloc (.cells #[.bool S, .slice A1 n1 c1, .slice A2 n2 c2] 108))) := Lib.hid ((Below.refl _ _).alloc (Nat.le_refl _) _)
  have hc := rounded_self d s r A1 A2 n1 c1 n2 c2 (w.alloc (.cells #[.bool S, .slice A1 n1 c1, .slice A2 n2 c2] 108)) HD.out hr l1 l2 (H1.out.next HB0.out) (H2.out.next HB0.out)
  rw [HS.out] at hc
  refine hc.mono ?_
  rintro e1 w1 ⟨rfl, hb1⟩
  have HB1 := Lib.hid (below_then HB0.out hb1); clear hb1
  go_wp2
  go_ret
  exact ⟨rfl, HB1.out⟩

end Go.Proofs.Ytamaeggkpdgaiaa
