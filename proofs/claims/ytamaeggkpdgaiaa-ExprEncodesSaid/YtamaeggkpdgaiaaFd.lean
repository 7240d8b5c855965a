/- Binary32 made wide: the program's way and the reference's. No program in sight. -/
import Derived.Test.YtamaeggkpdgaiaaFc
namespace Go.Proofs.Ytamaeggkpdgaiaa
open Go.RowKit
open Ieee (single double)

theorem wideF_eq {x : Nat} (h : nanS x = false) : wideF x = double.word (Fl.neg single x) (Fl.wideRung (Fl.rung single x)) := by
  unfold wideF
  rw [Fl.widen (by rw [← nanS_eq]; exact h)]; rfl

theorem conv_wide {P : Program} (w : World) {s d : TypeId} {x : Nat} (hs : (P.underlying s).isSome = true) (hd : P.underlying d = some (.float .f64)) (h : (FloatKind.f32.format.read x).isNaN = false) :
    (convert s d (.float .f32 x)).run P w = .ok (.float .f64 (wideF x)) w := by
  have h' : Fl.nan single x = false := by rw [← Fl.read_isNaN Fl.fit_single]; exact h
  have e := wideF_eq (x := x) (by rw [nanS_eq]; exact h')
  exact run_convert_float_float w s d .f32 .f64 x _ hs hd (by rw [Fl.widen h', e])

/-- The parts of a word of binary32. -/
theorem negS_pos {r : Nat} (h : r < 2147483648) : negS r = false ∧ negS (r + 2147483648) = true := by
  unfold negS
  constructor
  · rw [show ((r : Nat) : Int) / 2147483648 = 0 from by omega]; rfl
  · rw [show ((r + 2147483648 : Nat) : Int) / 2147483648 = 1 from by omega]; rfl
theorem parts_pos {r : Nat} (h : r < 2147483648) : expS r = r / 8388608 ∧ expS (r + 2147483648) = r / 8388608 ∧ fracS (r + 2147483648) = fracS r := by
  unfold expS fracS; omega

theorem mag23 {r : Nat} (h : r < 8388608) : Fl.mag 23 r = r := by
  have h' : r < 2 ^ 23 := h
  unfold Fl.mag; exact if_pos h'
theorem rungD_flr (M : Nat) : rungD M = Fl.flr 52 M 0 := by
  unfold rungD Fl.flr
  rw [Nat.sub_zero, Nat.add_zero]

/-- The reference's widening, of a magnitude and a sign. -/
theorem wideR_mag {r : Nat} (s : Bool) (x : Nat) (hr : r ≤ 2139095040) (h1 : expS x = r / 8388608) (h2 : fracS x = r % 8388608) (h3 : negS x = s) :
    wideR x = if r = 0 then 0 else wordD s (Fl.wideRung r) := by
  unfold wideR
  rw [h1, h2, h3]
  by_cases c1 : r / 8388608 = 255
  · have : r = 2139095040 := by omega
    subst this
    have hw : Fl.wideRung 2139095040 = 9218868437227405312 := by unfold Fl.wideRung; rw [if_neg (by omega)]
    rw [if_pos c1, if_pos (by omega), if_neg (by omega), hw]
    cases s <;> rfl
  · rw [if_neg c1]
    have hlt : r < 2139095040 := by omega
    have hw : Fl.wideRung r = rungD (Fl.wideM r) := by unfold Fl.wideRung; rw [if_pos hlt, rungD_flr]
    by_cases c2 : r / 8388608 = 0
    · rw [if_pos c2]
      have hr2 : r % 8388608 = r := by omega
      rw [hr2]
      by_cases c3 : r = 0
      · rw [if_pos c3, if_pos c3]
      · rw [if_neg c3, if_neg c3, hw]
        unfold madeD Fl.wideM
        rw [mag23 (by omega), show ((-149 : Int) + 1074).toNat = Fl.wsh from by rw [Fl.wsh_eq]; decide]
    · rw [if_neg c2, if_neg (by omega), hw]
      unfold madeD Fl.wideM
      have hm : Fl.mag 23 r = (r % 8388608 + 8388608) * 2 ^ (r / 8388608 - 1) := by
        unfold Fl.mag
        rw [if_neg (by omega), Nat.add_comm (r % 8388608)]
      have he : (((r / 8388608 : Nat) : Int) - 150 + 1074).toNat = r / 8388608 - 1 + Fl.wsh := by rw [Fl.wsh_eq]; omega
      rw [hm, Nat.mul_assoc, ← Nat.pow_add, he]

theorem wideF_pos {r : Nat} (h : r < 2147483648) (hn : nanS r = false) : r ≤ 2139095040 ∧ wideF r = wordD false (Fl.wideRung r) := by
  have h1 := hn
  rw [(nanS_iff h).1] at h1
  refine ⟨by have := of_decide_eq_false h1; omega, ?_⟩
  rw [wideF_eq hn]
  have e1 : Fl.neg single r = false := by unfold Fl.neg; rw [Fl.signWeight_single, Nat.div_eq_of_lt h]; rfl
  have e2 : Fl.rung single r = r := by unfold Fl.rung; rw [Fl.signWeight_single, Nat.mod_eq_of_lt h]
  rw [e1, e2]; rfl
theorem wideF_neg {r : Nat} (h : r < 2147483648) (hn : nanS (r + 2147483648) = false) : r ≤ 2139095040 ∧ wideF (r + 2147483648) = wordD true (Fl.wideRung r) := by
  have h1 := hn
  rw [(nanS_iff h).2] at h1
  refine ⟨by have := of_decide_eq_false h1; omega, ?_⟩
  rw [wideF_eq hn]
  have e1 : Fl.neg single (r + 2147483648) = true := by unfold Fl.neg; rw [Fl.signWeight_single, show (r + 2147483648) / 2147483648 = 1 from by omega]; rfl
  have e2 : Fl.rung single (r + 2147483648) = r := by unfold Fl.rung; rw [Fl.signWeight_single]; omega
  rw [e1, e2]
  unfold Ieee.Format.word wordD
  rw [Fl.signWeight_double]
  simp; omega

/-- A word of binary32 that is no NaN: its magnitude, its sign, what it is made wide. -/
theorem wide_cases {x : Nat} (hx : W32 x) (hn : nanS x = false) : ∃ r s, r ≤ 2139095040 ∧ (s = false ∧ x = r ∨ s = true ∧ x = r + 2147483648) ∧
    wideF x = wordD s (Fl.wideRung r) ∧ wideN x = (if r = 0 then 0 else wordD s (Fl.wideRung r)) ∧ kS x = (if s then -(r : Int) else r) := by
  obtain ⟨r, hr, hx' | hx'⟩ := w32_cases hx
  · subst hx'
    obtain ⟨h1, h2⟩ := wideF_pos hr hn
    refine ⟨_, false, h1, Or.inl ⟨rfl, rfl⟩, h2, ?_, by rw [kS_pos hr]; rfl⟩
    unfold wideN
    rw [hn, if_neg Bool.false_ne_true]
    exact wideR_mag false _ h1 (parts_pos hr).1 rfl (negS_pos hr).1
  · subst hx'
    obtain ⟨h1, h2⟩ := wideF_neg hr hn
    refine ⟨r, true, h1, Or.inr ⟨rfl, rfl⟩, h2, ?_, by rw [kS_neg hr]; rfl⟩
    unfold wideN
    rw [hn, if_neg Bool.false_ne_true]
    exact wideR_mag true _ h1 (parts_pos hr).2.1 (by rw [(parts_pos hr).2.2]; rfl) (negS_pos hr).2

theorem wideRung_zero : Fl.wideRung 0 = 0 := by
  have t1 : Fl.wideM 0 = 0 := by unfold Fl.wideM; rw [Fl.mag_zero, Nat.zero_mul]
  have t2 : Fl.flr 52 0 0 = 0 := by decide
  unfold Fl.wideRung
  rw [if_pos (by omega), t1, t2]
theorem wideRung_pos {r : Nat} (hr : r ≤ 2139095040) (h : r ≠ 0) : 0 < Fl.wideRung r := by
  have := (Fl.wideRung_mono (r := 0) (s := r) (by omega) hr).2 (by omega)
  rw [wideRung_zero] at this; exact this

theorem nanD_wordD {s : Bool} {r : Nat} (h : r ≤ 9218868437227405312) : nanD (wordD s r) = false := by
  unfold wordD
  cases s
  · simp only [Bool.false_eq_true, if_false]; rw [(nanD_iff (by omega)).1]; exact decide_eq_false (by omega)
  · simp only [if_true]; rw [(nanD_iff (by omega)).2]; exact decide_eq_false (by omega)

theorem nanN {x : Nat} (hx : W32 x) : nanD (wideN x) = nanS x := by
  cases hn : nanS x
  · obtain ⟨r, s, h1, _, _, h4, _⟩ := wide_cases hx hn
    rw [h4]
    split
    · decide
    · exact nanD_wordD Fl.wideRung_lt
  · unfold wideN; rw [hn, if_pos rfl]; decide

theorem kD_wideN {r : Nat} {s : Bool} : kD (if r = 0 then 0 else wordD s (Fl.wideRung r)) = if s then -(Fl.wideRung r : Int) else Fl.wideRung r := by
  have hl := Fl.wideRung_lt (r := r)
  by_cases h : r = 0
  · subst h; rw [wideRung_zero]; cases s <;> decide
  · rw [if_neg h]
    unfold wordD
    cases s
    · simp only [Bool.false_eq_true, if_false]; exact kD_pos (by omega)
    · simp only [if_true]; exact kD_neg (by omega)

theorem leq_wide {x y : Nat} (hx : W32 x) (hy : W32 y) : leqF .f64 (wideN x) (wideN y) = leqF .f32 x y := by
  rw [leqF_f64, leqF_f32, nanN hx, nanN hy]
  cases h1 : nanS x
  · cases h2 : nanS y
    · obtain ⟨r, s, a1, _, _, a4, a5⟩ := wide_cases hx h1
      obtain ⟨u, t, b1, _, _, b4, b5⟩ := wide_cases hy h2
      rw [a4, b4, kD_wideN, kD_wideN, a5, b5]
      have m1 := Fl.wideRung_mono a1 b1
      have m2 := Fl.wideRung_mono b1 a1
      have z1 := wideRung_pos a1
      have z2 := wideRung_pos b1
      have z3 : r = 0 → Fl.wideRung r = 0 := fun h => by rw [h, wideRung_zero]
      have z4 : u = 0 → Fl.wideRung u = 0 := fun h => by rw [h, wideRung_zero]
      generalize Fl.wideRung r = R at *
      generalize Fl.wideRung u = U at *
      rw [Bool.eq_iff_iff]
      cases s <;> cases t <;> simp <;> omega
    · rfl
  · rfl

theorem sound_wide {x y : Nat} (hx : W32 x) (hy : W32 y) : soundD (wideN x) (wideN y) = soundS x y := by
  rw [soundD_eq (wideN_lt hx) (wideN_lt hy), leq_wide hx hy]
  unfold soundS
  cases hle : leqF .f32 x y
  · rfl
  · have hn : nanS x = false ∧ nanS y = false := by
      rw [leqF_f32] at hle
      revert hle; cases nanS x <;> cases nanS y <;> simp
    obtain ⟨r, s, a1, _, a3, a4, _⟩ := wide_cases hx hn.1
    obtain ⟨u, t, b1, _, b3, b4, _⟩ := wide_cases hy hn.2
    have hl1 := Fl.wideRung_lt (r := r)
    have hl2 := Fl.wideRung_lt (r := u)
    rw [a3, b3, a4, b4, infPosD_eq (wordD_lt (by omega)), infNegD_eq (wordD_lt (by omega))]
    have z1 := wideRung_pos a1
    have z2 := wideRung_pos b1
    have z3 : r = 0 → Fl.wideRung r = 0 := fun h => by rw [h, wideRung_zero]
    have z4 : u = 0 → Fl.wideRung u = 0 := fun h => by rw [h, wideRung_zero]
    generalize Fl.wideRung r = R at *
    generalize Fl.wideRung u = U at *
    unfold wordD
    rw [Bool.eq_iff_iff]
    by_cases c1 : r = 0 <;> by_cases c2 : u = 0 <;> cases s <;> cases t <;> simp [c1, c2] <;> omega

theorem plainF_f32 {x r : Nat} {s : Bool} (hn : nanS x = false) (hk : kS x = (if s then -(r : Int) else r)) : plainF .f32 x = if r = 0 then 0 else x := by
  unfold plainF eqZeroF
  rw [order_f32 hn (by decide), ord_eq, hk, kS_pos (by decide)]
  by_cases h : r = 0
  · subst h; cases s <;> simp
  · rw [if_neg h, if_neg]; cases s <;> simp [h]

theorem plain_wide {x : Nat} (hx : W32 x) (hn : nanS x = false) : plainD (wideN x) = wideF (plainF .f32 x) := by
  obtain ⟨r, s, a1, _, a3, a4, a5⟩ := wide_cases hx hn
  rw [plainF_f32 hn a5, a4]
  by_cases h : r = 0
  · rw [if_pos h, if_pos h]; decide
  · rw [if_neg h, if_neg h, a3]
    have hl := Fl.wideRung_lt (r := r)
    have hp := wideRung_pos a1 h
    have hnn : nanD (wordD s (Fl.wideRung r)) = false := nanD_wordD hl
    cases s
    · have e : wordD false (Fl.wideRung r) = Fl.wideRung r := rfl
      rw [e] at hnn ⊢
      exact plainD_pos (by omega) hnn
    · have := plainD_neg (r := Fl.wideRung r) (by omega) hnn
      rw [if_neg (by omega)] at this
      exact this

theorem readLo_wide {x y : Nat} (hx : W32 x) (hy : W32 y) : readLo (wideN x) (wideN y) = wideF (readLoS x y) := by
  unfold readLo readLoS
  rw [sound_wide hx hy]
  cases h : soundS x y
  · simp only [Bool.false_eq_true, if_false]; decide
  · have hn : nanS x = false := by
      unfold soundS at h; rw [leqF_f32] at h
      revert h; cases nanS x <;> simp
    exact plain_wide hx hn
theorem readHi_wide {x y : Nat} (hx : W32 x) (hy : W32 y) : readHi (wideN x) (wideN y) = wideF (readHiS x y) := by
  unfold readHi readHiS
  rw [sound_wide hx hy]
  cases h : soundS x y
  · simp only [Bool.false_eq_true, if_false]; decide
  · have hn : nanS y = false := by
      unfold soundS at h; rw [leqF_f32] at h
      revert h; cases nanS x <;> cases nanS y <;> simp
    exact plain_wide hy hn

theorem plainF_nan {x : Nat} (h : nanS x = false) : nanS (plainF .f32 x) = false := by
  unfold plainF; split
  · decide
  · exact h
theorem readLoS_nan (x y : Nat) : nanS (readLoS x y) = false := by
  unfold readLoS
  cases h : soundS x y
  · simp only [Bool.false_eq_true, if_false]; decide
  · have hn : nanS x = false := by
      unfold soundS at h; rw [leqF_f32] at h
      revert h; cases nanS x <;> simp
    exact plainF_nan hn
theorem readHiS_nan (x y : Nat) : nanS (readHiS x y) = false := by
  unfold readHiS
  cases h : soundS x y
  · simp only [Bool.false_eq_true, if_false]; decide
  · have hn : nanS y = false := by
      unfold soundS at h; rw [leqF_f32] at h
      revert h; cases nanS x <;> cases nanS y <;> simp
    exact plainF_nan hn
theorem nan_read {x : Nat} (h : nanS x = false) : (FloatKind.f32.format.read x).isNaN = false := by
  rw [nanS_eq] at h; rw [← h]; exact Fl.read_isNaN Fl.fit_single

end Go.Proofs.Ytamaeggkpdgaiaa
