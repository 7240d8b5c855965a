/- Floats as whole numbers: the magnitude of a rung, in units of the least place; the nearest rung. No program in sight. -/
import Derived.Laws.FloatArith
namespace Go.Proofs.Ytamaeggkpdgaiaa.Fl

theorem two_pow_pos' (n : Nat) : 0 < 2 ^ n := Nat.two_pow_pos n

/-- The magnitude of a rung, in units of the least number above 0. -/
def mag (F r : Nat) : Nat := if r < 2 ^ F then r else (2 ^ F + r % 2 ^ F) * 2 ^ (r / 2 ^ F - 1)

/-- What the next rung has more. -/
def ulp (F r : Nat) : Nat := 2 ^ (r / 2 ^ F - 1)

theorem ulp_pos (F r : Nat) : 0 < ulp F r := Nat.two_pow_pos _

theorem mag_succ (F r : Nat) : mag F (r + 1) = mag F r + ulp F r := by
  have hB : 0 < 2 ^ F := Nat.two_pow_pos F
  unfold mag ulp
  generalize 2 ^ F = B at *
  by_cases h1 : r + 1 < B
  · have h2 : r < B := by omega
    have h3 : r / B = 0 := Nat.div_eq_of_lt h2
    simp [h1, h2, h3]
  · by_cases h2 : r < B
    · have h3 : r + 1 = B := by omega
      have h4 : r / B = 0 := Nat.div_eq_of_lt h2
      simp [h3, h2, h4, hB]
    · have hq : r = B * (r / B) + r % B := (Nat.div_add_mod r B).symm
      have hm : r % B < B := Nat.mod_lt _ hB
      have hq1 : 1 ≤ r / B := (Nat.one_le_div_iff hB).2 (by omega)
      simp only [h1, h2, if_false]
      by_cases h5 : r % B + 1 = B
      · have e1 : r + 1 = B * (r / B + 1) := by rw [Nat.mul_add]; omega
        have e2 : (r + 1) / B = r / B + 1 := by rw [e1]; exact Nat.mul_div_cancel_left _ hB
        have e3 : (r + 1) % B = 0 := by rw [e1]; exact Nat.mul_mod_right _ _
        rw [e2, e3]
        obtain ⟨k, hk⟩ : ∃ k, r / B = k + 1 := ⟨r / B - 1, by omega⟩
        rw [hk]
        have e4 : r % B = B - 1 := by omega
        rw [e4]
        simp only [Nat.add_sub_cancel, Nat.add_zero]
        rw [Nat.pow_succ, show B + (B - 1) = 2 * B - 1 from by omega, Nat.sub_mul, Nat.one_mul]
        have : 2 ^ k ≤ 2 * B * 2 ^ k := Nat.le_mul_of_pos_left _ (by omega)
        rw [Nat.sub_add_cancel this]
        rw [Nat.mul_comm (2 ^ k) 2, ← Nat.mul_assoc, Nat.mul_comm B 2]
      · have e1 : r + 1 = B * (r / B) + (r % B + 1) := by omega
        have e2 : (r + 1) / B = r / B := by
          have e0 : (r % B + 1) / B = 0 := Nat.div_eq_of_lt (by omega)
          rw [e1, Nat.mul_add_div hB, e0, Nat.add_zero]
        have e3 : (r + 1) % B = r % B + 1 := by
          have e0 : (r % B + 1) % B = r % B + 1 := Nat.mod_eq_of_lt (by omega)
          rw [e1, Nat.mul_add_mod, e0]
        rw [e2, e3, ← Nat.add_assoc, Nat.add_mul, Nat.one_mul]

theorem mag_zero (F : Nat) : mag F 0 = 0 := by simp [mag, Nat.two_pow_pos]

theorem mag_lt {F r s : Nat} (h : r < s) : mag F r < mag F s := by
  induction s with
  | zero => omega
  | succ s ih =>
    rw [mag_succ]
    have := ulp_pos F s
    by_cases e : r = s
    · subst e; omega
    · have := ih (by omega); omega

theorem mag_le {F r s : Nat} (h : r ≤ s) : mag F r ≤ mag F s := by
  by_cases e : r = s
  · subst e; exact Nat.le_refl _
  · exact Nat.le_of_lt (mag_lt (by omega))

theorem mag_lt_iff {F r s : Nat} : mag F r < mag F s ↔ r < s :=
  ⟨fun h => by
    by_cases e : r < s
    · exact e
    · have := mag_le (F := F) (Nat.le_of_not_lt e); omega, mag_lt⟩

theorem mag_le_iff {F r s : Nat} : mag F r ≤ mag F s ↔ r ≤ s :=
  ⟨fun h => by
    by_cases e : s < r
    · have := mag_lt (F := F) e; omega
    · omega, mag_le⟩

theorem mag_inj {F r s : Nat} (h : mag F r = mag F s) : r = s := by
  have a := (mag_le_iff (F := F) (r := r) (s := s)).1 (by omega)
  have b := (mag_le_iff (F := F) (r := s) (s := r)).1 (by omega)
  omega

/-- A signed magnitude. -/
def sgn (neg : Bool) (m : Nat) : Int := if neg then -(m : Int) else m

open Ieee

/-- The sign and the rung of a word. -/
def neg (f : Format) (x : Nat) : Bool := x / f.signWeight % 2 == 1
def rung (f : Format) (x : Nat) : Nat := x % f.signWeight
def nan (f : Format) (x : Nat) : Bool := decide (f.infRung < rung f x)
def key (f : Format) (x : Nat) : Int := sgn (neg f x) (rung f x)
/-- The value in units of the least number, infinity as one more binade would have it. -/
def val (f : Format) (x : Nat) : Int := sgn (neg f x) (mag f.fractionBits (rung f x))


/-- The formats that are meant. -/
def Fit (f : Format) : Prop := 2 ≤ f.exponentBits

theorem fit_single : Fit single := by unfold Fit; decide
theorem fit_double : Fit double := by unfold Fit; decide

theorem binade_pos (f : Format) : 0 < f.binade := Nat.two_pow_pos _

theorem exps (f : Format) (hf : Fit f) : 4 ≤ 2 ^ f.exponentBits :=
  Nat.pow_le_pow_right (n := 2) (i := 2) (by decide) hf

theorem binade_lt_inf {f : Format} (hf : Fit f) : f.binade < f.infRung := by
  have h := exps f hf
  have hb := binade_pos f
  unfold Format.infRung
  have : 3 * f.binade ≤ (2 ^ f.exponentBits - 1) * f.binade := Nat.mul_le_mul_right _ (by omega)
  omega

theorem inf_lt_sign (f : Format) : f.infRung + f.binade = f.signWeight := by
  have h : 0 < 2 ^ f.exponentBits := Nat.two_pow_pos _
  unfold Format.infRung Format.signWeight
  rw [Nat.pow_add, ← Nat.succ_mul]
  exact congrArg (· * f.binade) (by omega)

/-- What a word that is no NaN stands for. -/
def datum (f : Format) (neg : Bool) (r : Nat) : Datum :=
  if r < f.binade then .number neg r f.leastPlace
  else if r < f.infRung then .number neg (f.binade + r % f.binade) (f.leastPlace + (r / f.binade - 1 : Nat))
  else .infinity neg

theorem read_datum {f : Format} {x : Nat} (h : nan f x = false) : f.read x = datum f (neg f x) (rung f x) := by
  have h' : ¬ f.infRung < rung f x := by simpa [nan] using h
  have e1 : x % f.signWeight = rung f x := rfl
  have e2 : (x / f.signWeight % 2 == 1) = neg f x := rfl
  unfold Format.read datum
  dsimp only
  rw [e1, e2]
  by_cases h1 : rung f x < f.binade
  · rw [if_pos h1, if_pos h1]
  · rw [if_neg h1, if_neg h1]
    by_cases h2 : rung f x < f.infRung
    · rw [if_pos h2, if_pos h2]
    · rw [if_neg h2, if_neg h2, if_pos (by omega)]

theorem read_isNaN {f : Format} {x : Nat} (hf : Fit f) : (f.read x).isNaN = nan f x := by
  have hb := binade_lt_inf hf
  cases h : nan f x with
  | false =>
    rw [read_datum h]
    unfold datum
    split
    · rfl
    · split <;> rfl
  | true =>
    have h' : f.infRung < x % f.signWeight := of_decide_eq_true h
    unfold Format.read
    dsimp only
    rw [if_neg (by omega), if_neg (by omega), if_neg (by omega)]
    rfl


/-- The number of a datum in units of '2 ^ base'. -/
theorem datum_mag {f : Format} {s : Bool} {r : Nat} (h : r < f.infRung) :
    ∃ m d, datum f s r = .number s m (f.leastPlace + (d : Nat)) ∧ m * 2 ^ d = mag f.fractionBits r := by
  unfold datum mag
  show ∃ m d, (if r < 2 ^ f.fractionBits then _ else _) = _ ∧ _
  by_cases h1 : r < 2 ^ f.fractionBits
  · exact ⟨r, 0, by rw [if_pos h1]; simp, by rw [if_pos h1]; simp⟩
  · exact ⟨2 ^ f.fractionBits + r % 2 ^ f.fractionBits, r / 2 ^ f.fractionBits - 1, by rw [if_neg h1, if_pos h]; rfl, by rw [if_neg h1]⟩

theorem datum_inf {f : Format} {s : Bool} {r : Nat} (hf : Fit f) (h : f.infRung ≤ r) : datum f s r = .infinity s := by
  have := binade_lt_inf hf
  unfold datum
  rw [if_neg (by omega), if_neg (by omega)]

theorem signed_eq (s : Bool) (m up : Nat) : signed s m up = sgn s (m * 2 ^ up) := by
  unfold signed sgn
  rw [Nat.shiftLeft_eq]

theorem sgn_mul (s : Bool) (m k : Nat) : sgn s (m * k) = sgn s m * (k : Int) := by
  unfold sgn; cases s <;> simp [Int.neg_mul]

theorem compare_mul {a b : Int} {k : Nat} (hk : 0 < k) : compare (a * (k : Int)) (b * (k : Int)) = compare a b := by
  have hk' : (0 : Int) < k := by omega
  simp only [compare, compareOfLessAndEq]
  have h1 : (a * (k : Int) < b * (k : Int)) ↔ a < b := Int.mul_lt_mul_right hk'
  have h2 : (a * (k : Int) = b * (k : Int)) ↔ a = b := Int.mul_eq_mul_right_iff (by omega)
  simp only [h1, h2]

theorem compare_lt {a b : Int} (h : a < b) : compare a b = .lt := by
  simp [compare, compareOfLessAndEq, h]
theorem compare_gt {a b : Int} (h : b < a) : compare a b = .gt := by
  have h1 : ¬ a < b := by omega
  have h2 : ¬ a = b := by omega
  simp [compare, compareOfLessAndEq, h1, h2]
theorem compare_eq {a b : Int} (h : a = b) : compare a b = .eq := by
  subst h; simp [compare, compareOfLessAndEq]

/-- Two numbers stand to each other as their values do. -/
theorem order_number (p : Int) (s t : Bool) (m n : Nat) (d e : Nat) :
    Datum.order (.number s m (p + (d : Nat))) (.number t n (p + (e : Nat))) = some (compare (sgn s (m * 2 ^ d)) (sgn t (n * 2 ^ e))) := by
  unfold Datum.order
  dsimp only
  congr 1
  rw [signed_eq, signed_eq]
  generalize hb : min (p + (d : Int)) (p + (e : Int)) = b
  obtain ⟨g, hg⟩ : ∃ g : Nat, b = p + g ∧ g ≤ d ∧ g ≤ e := ⟨min d e, by omega, by omega, by omega⟩
  obtain ⟨hg, hd, he⟩ := hg
  have e1 : (p + (d : Int) - b).toNat = d - g := by omega
  have e2 : (p + (e : Int) - b).toNat = e - g := by omega
  rw [e1, e2, ← compare_mul (k := 2 ^ g) (Nat.two_pow_pos g), ← sgn_mul, ← sgn_mul, Nat.mul_assoc, Nat.mul_assoc, ← Nat.pow_add, ← Nat.pow_add,
    Nat.sub_add_cancel hd, Nat.sub_add_cancel he]

theorem sgn_mag_lt {F : Nat} {s t : Bool} {r u : Nat} : sgn s (mag F r) < sgn t (mag F u) ↔ sgn s r < sgn t u := by
  have h1 := @mag_lt_iff F r u
  have h2 := @mag_lt_iff F u r
  have h3 := @mag_lt_iff F 0 r
  have h4 := @mag_lt_iff F 0 u
  rw [mag_zero] at h3 h4
  unfold sgn
  cases s <;> cases t <;> simp <;> omega

theorem compare_mag {F : Nat} {s t : Bool} {r u : Nat} : compare (sgn s (mag F r)) (sgn t (mag F u)) = compare (sgn s r) (sgn t u) := by
  rcases Int.lt_trichotomy (sgn s r) (sgn t u) with h | h | h
  · rw [compare_lt h, compare_lt (sgn_mag_lt.2 h)]
  · rw [compare_eq h]
    apply compare_eq
    have a : ¬ sgn s (mag F r) < sgn t (mag F u) := fun g => by have := sgn_mag_lt.1 g; omega
    have b : ¬ sgn t (mag F u) < sgn s (mag F r) := fun g => by have := sgn_mag_lt.1 g; omega
    omega
  · rw [compare_gt h, compare_gt (sgn_mag_lt.2 h)]

theorem order_datum {f : Format} (hf : Fit f) {s t : Bool} {r u : Nat} (hr : r ≤ f.infRung) (hu : u ≤ f.infRung) :
    (datum f s r).order (datum f t u) = some (compare (sgn s r) (sgn t u)) := by
  have hb := binade_lt_inf hf
  by_cases h1 : r < f.infRung
  · obtain ⟨m, d, e1, e2⟩ := datum_mag (s := s) h1
    by_cases h2 : u < f.infRung
    · obtain ⟨n, e, e3, e4⟩ := datum_mag (s := t) h2
      rw [e1, e3, order_number, e2, e4, compare_mag]
    · rw [e1, datum_inf hf (by omega)]
      have : u = f.infRung := by omega
      subst this
      show some (if t then Ordering.gt else Ordering.lt) = _
      cases t
      · rw [compare_lt (by unfold sgn; cases s <;> simp <;> omega)]; rfl
      · rw [compare_gt (by unfold sgn; cases s <;> simp <;> omega)]; rfl
  · by_cases h2 : u < f.infRung
    · obtain ⟨n, e, e3, e4⟩ := datum_mag (s := t) h2
      rw [e3, datum_inf hf (by omega)]
      have : r = f.infRung := by omega
      subst this
      show some (if s then Ordering.lt else Ordering.gt) = _
      cases s
      · rw [compare_gt (by unfold sgn; cases t <;> simp <;> omega)]; rfl
      · rw [compare_lt (by unfold sgn; cases t <;> simp <;> omega)]; rfl
    · rw [datum_inf hf (by omega), datum_inf hf (by omega)]
      have h3 : r = f.infRung := by omega
      have h4 : u = f.infRung := by omega
      subst h3; subst h4
      have hp : 0 < f.infRung := by omega
      cases s <;> cases t
      · rw [compare_eq rfl]; rfl
      · rw [compare_gt (by unfold sgn; simp; omega)]; rfl
      · rw [compare_lt (by unfold sgn; simp; omega)]; rfl
      · rw [compare_eq rfl]; rfl

/-- Words that are no NaN stand to each other as their keys do. -/
theorem order_key {f : Format} (hf : Fit f) {x y : Nat} (hx : nan f x = false) (hy : nan f y = false) :
    f.order x y = some (compare (key f x) (key f y)) := by
  unfold Format.order
  rw [read_datum hx, read_datum hy]
  exact order_datum hf (by simpa [nan] using hx) (by simpa [nan] using hy)

theorem order_nan {f : Format} (hf : Fit f) {x y : Nat} (h : nan f x = true ∨ nan f y = true) : f.order x y = none := by
  have : (f.read x).isNaN = true ∨ (f.read y).isNaN = true := by rw [read_isNaN hf, read_isNaN hf]; exact h
  unfold Format.order
  generalize f.read x = a at *
  generalize f.read y = b at *
  cases a <;> cases b <;> simp_all [Datum.isNaN, Datum.order]

/-- To the nearest whole number; between two, the even one. -/
def rne (n d : Nat) : Nat := n / 2 ^ d + (if 2 ^ d < 2 * (n % 2 ^ d) ∨ (2 ^ d = 2 * (n % 2 ^ d) ∧ n / 2 ^ d % 2 = 1) then 1 else 0)

theorem rne_zero (n : Nat) : rne n 0 = n := by simp [rne, Nat.mod_one]

theorem rne_scale (n d j : Nat) : rne (n * 2 ^ j) (d + j) = rne n d := by
  have hj : 0 < 2 ^ j := Nat.two_pow_pos j
  unfold rne
  have e1 : n * 2 ^ j / 2 ^ (d + j) = n / 2 ^ d := by rw [Nat.pow_add]; exact Nat.mul_div_mul_right _ _ hj
  have e2 : n * 2 ^ j % 2 ^ (d + j) = n % 2 ^ d * 2 ^ j := by rw [Nat.pow_add]; exact Nat.mul_mod_mul_right _ _ _
  have e3 : 2 * (n % 2 ^ d * 2 ^ j) = 2 * (n % 2 ^ d) * 2 ^ j := by rw [Nat.mul_assoc]
  have c1 : (2 ^ (d + j) < 2 * (n % 2 ^ d * 2 ^ j)) ↔ 2 ^ d < 2 * (n % 2 ^ d) := by
    rw [e3, Nat.pow_add]; exact Nat.mul_lt_mul_right hj
  have c2 : (2 ^ (d + j) = 2 * (n % 2 ^ d * 2 ^ j)) ↔ 2 ^ d = 2 * (n % 2 ^ d) := by
    rw [e3, Nat.pow_add]; exact Nat.mul_right_cancel_iff hj
  simp only [e1, e2, c1, c2]

theorem cut_even (s : Bool) (n d : Nat) : Toward.even.cut s n d = rne n d := by
  unfold Toward.cut rne
  dsimp only
  by_cases h : d ≤ n.log2 + 2
  · rw [Nat.min_eq_left h, Nat.one_shiftLeft]
    congr 1
    by_cases c1 : 2 ^ d < 2 * (n % 2 ^ d)
    · simp [c1]
    · by_cases c2 : 2 ^ d = 2 * (n % 2 ^ d)
      · by_cases c3 : n / 2 ^ d % 2 = 1
        · rw [if_pos (Or.inr ⟨c2, c3⟩)]; rw [← c2]; simp [c3]
        · rw [if_neg (by omega)]; simp [c1, c3]
      · rw [if_neg (by omega)]; simp [c1, c2]
  · rw [Nat.min_eq_right (by omega), Nat.one_shiftLeft]
    have hn : n < 2 ^ (n.log2 + 1) := Nat.lt_log2_self
    have e1 : 2 ^ (n.log2 + 2) = 2 * 2 ^ (n.log2 + 1) := by rw [Nat.pow_succ]; omega
    have e2 : 2 ^ (n.log2 + 2) ≤ 2 ^ d := Nat.pow_le_pow_right (by decide) (by omega)
    have a1 : n / 2 ^ (n.log2 + 2) = 0 := Nat.div_eq_of_lt (by omega)
    have a2 : n / 2 ^ d = 0 := Nat.div_eq_of_lt (by omega)
    have a3 : n % 2 ^ (n.log2 + 2) = n := Nat.mod_eq_of_lt (by omega)
    have a4 : n % 2 ^ d = n := Nat.mod_eq_of_lt (by omega)
    rw [a1, a2, a3, a4, if_neg (by omega)]
    have c1 : ¬ 2 ^ (n.log2 + 2) < 2 * n := by omega
    simp [c1]

/-- The rung nearest to 'n / 2 ^ k' units. -/
def nearR (F n k : Nat) : Nat := (n.log2 - F - k) * 2 ^ F + rne n (n.log2 - F - k + k)

theorem log2_mul_pow {n : Nat} (h : n ≠ 0) (j : Nat) : (n * 2 ^ j).log2 = n.log2 + j := by
  have hj := Nat.two_pow_pos j
  have h1 : n * 2 ^ j ≠ 0 := Nat.mul_ne_zero h (by omega)
  have a : n.log2 + j ≤ (n * 2 ^ j).log2 := (Nat.le_log2 h1).2 (by rw [Nat.pow_add]; exact Nat.mul_le_mul_right _ (Nat.log2_self_le h))
  have b : (n * 2 ^ j).log2 < n.log2 + j + 1 := (Nat.log2_lt h1).2 (by
    rw [show n.log2 + j + 1 = n.log2 + 1 + j from by omega, Nat.pow_add]; exact Nat.mul_lt_mul_of_pos_right Nat.lt_log2_self hj)
  omega

theorem nearR_scale {F n k j : Nat} (h : n ≠ 0) : nearR F (n * 2 ^ j) (k + j) = nearR F n k := by
  unfold nearR
  have e : (n * 2 ^ j).log2 - F - (k + j) = n.log2 - F - k := by rw [log2_mul_pow h]; omega
  rw [e]
  rw [show n.log2 - F - k + (k + j) = n.log2 - F - k + k + j from by omega, rne_scale]

/-- The word that the format writes for a number 'm * 2 ^ place', in units 'm * 2 ^ a / 2 ^ k'. -/
theorem nearest_eq {f : Format} {s : Bool} {m : Nat} {p : Int} (a k : Nat) (hm : m ≠ 0) (hp : p = f.leastPlace + a - k) :
    f.nearest s m p = f.word s (min (nearR f.fractionBits (m * 2 ^ a) k) f.infRung) := by
  unfold Format.nearest
  dsimp only
  rw [if_neg hm]
  generalize hF : f.fractionBits = F
  generalize hlp : f.leastPlace = lp at *
  obtain ⟨e, he⟩ : ∃ e : Nat, e = (m * 2 ^ a).log2 - F - k := ⟨_, rfl⟩
  have hl := log2_mul_pow hm a
  have hlast : max (p + (m.log2 : Int) - (F : Int)) lp = lp + e := by omega
  rw [hlast, cut_even]
  have e1 : (lp + (e : Int) - lp).toNat = e := by omega
  rw [e1]
  congr 2
  unfold nearR
  rw [← he, show f.binade = 2 ^ F from by unfold Format.binade; rw [hF]]
  congr 1
  -- p - last = a - k - e
  have e2 : (p - (lp + (e : Int))).toNat = a - (k + e) := by omega
  have e3 : (lp + (e : Int) - p).toNat = k + e - a := by omega
  rw [e2, e3, Nat.shiftLeft_eq]
  by_cases h : k + e ≤ a
  · rw [show k + e - a = 0 from by omega, rne_zero]
    rw [show a = (a - (k + e)) + (e + k) from by omega, Nat.pow_add, ← Nat.mul_assoc]
    have := rne_scale (m * 2 ^ (a - (k + e))) 0 (e + k)
    rw [Nat.zero_add, rne_zero] at this
    rw [this]
    congr 2
    omega
  · rw [show a - (k + e) = 0 from by omega, Nat.pow_zero, Nat.mul_one]
    have := rne_scale m (k + e - a) a
    rw [← this]
    congr 1
    omega

/-- The rung that is not above. -/
def flr (F n k : Nat) : Nat := (n.log2 - F - k) * 2 ^ F + n / 2 ^ (n.log2 - F - k + k)

theorem flr_q {F n k : Nat} (e : Nat) (he : e = n.log2 - F - k) : n / 2 ^ (e + k) < 2 * 2 ^ F ∧ (0 < e → 2 ^ F ≤ n / 2 ^ (e + k)) := by
  constructor
  · apply (Nat.div_lt_iff_lt_mul (Nat.two_pow_pos _)).2
    have h1 : n < 2 ^ (n.log2 + 1) := Nat.lt_log2_self
    have h2 : 2 ^ (n.log2 + 1) ≤ 2 ^ (F + 1 + (e + k)) := Nat.pow_le_pow_right (by decide) (by omega)
    have h3 : 2 * 2 ^ F * 2 ^ (e + k) = 2 ^ (F + 1 + (e + k)) := by rw [Nat.pow_add 2 (F + 1), Nat.pow_succ, Nat.mul_comm 2 (2 ^ F)]
    rw [h3]
    exact Nat.lt_of_lt_of_le h1 h2
  · intro h0
    have hn : n ≠ 0 := by intro h; subst h; simp at he; omega
    apply (Nat.le_div_iff_mul_le (Nat.two_pow_pos _)).2
    rw [← Nat.pow_add]
    exact Nat.le_trans (Nat.pow_le_pow_right (by decide) (by omega)) (Nat.log2_self_le hn)

/-- The magnitude of a rung that is given by its binade and its significand. -/
theorem mag_at {F e q : Nat} (h1 : q ≤ 2 * 2 ^ F) (h2 : 0 < e → 2 ^ F ≤ q) : mag F (e * 2 ^ F + q) = q * 2 ^ e := by
  have hB : 0 < 2 ^ F := Nat.two_pow_pos F
  unfold mag
  generalize 2 ^ F = B at *
  by_cases hq : q < B
  · have he : e = 0 := by
      by_cases h : 0 < e
      · have := h2 h; omega
      · omega
    subst he
    simp [hq]
  · have hge : ¬ e * B + q < B := by
      have : 0 ≤ e * B := Nat.zero_le _
      omega
    rw [if_neg hge]
    by_cases hq2 : q < 2 * B
    · have ed : (e * B + q) / B = e + 1 := by
        rw [show e * B + q = B * (e + 1) + (q - B) from by rw [Nat.mul_add, Nat.mul_comm]; omega, Nat.mul_add_div hB, Nat.div_eq_of_lt (by omega)]
      have em : (e * B + q) % B = q - B := by
        rw [show e * B + q = B * (e + 1) + (q - B) from by rw [Nat.mul_add, Nat.mul_comm]; omega, Nat.mul_add_mod, Nat.mod_eq_of_lt (by omega)]
      rw [ed, em, Nat.add_sub_cancel]
      congr 1
      omega
    · have hqe : q = 2 * B := by omega
      subst hqe
      have ed : (e * B + 2 * B) / B = e + 2 := by rw [← Nat.add_mul, Nat.mul_div_cancel _ hB]
      have em : (e * B + 2 * B) % B = 0 := by rw [← Nat.add_mul, Nat.mul_mod_left]
      rw [ed, em, Nat.add_zero, show e + 2 - 1 = e + 1 from by omega, Nat.pow_succ, Nat.mul_comm (2 ^ e) 2, ← Nat.mul_assoc, Nat.mul_comm B 2]

theorem flr_spec (F n k : Nat) : mag F (flr F n k) * 2 ^ k ≤ n ∧ n < mag F (flr F n k + 1) * 2 ^ k := by
  unfold flr
  obtain ⟨e, he⟩ : ∃ e : Nat, e = n.log2 - F - k := ⟨_, rfl⟩
  rw [← he]
  obtain ⟨h1, h2⟩ := flr_q e he
  have hk := Nat.two_pow_pos (e + k)
  rw [mag_at (by omega) h2, Nat.add_assoc, mag_at (by omega) (fun h => by have := h2 h; omega)]
  rw [Nat.mul_assoc, Nat.mul_assoc, ← Nat.pow_add]
  have hd := Nat.div_add_mod n (2 ^ (e + k))
  have hm := Nat.mod_lt n hk
  rw [Nat.add_mul, Nat.one_mul]
  rw [Nat.mul_comm] at hd
  omega

theorem flr_unique {F n k r : Nat} (h1 : mag F r * 2 ^ k ≤ n) (h2 : n < mag F (r + 1) * 2 ^ k) : flr F n k = r := by
  obtain ⟨a, b⟩ := flr_spec F n k
  have hk := Nat.two_pow_pos k
  have c1 : mag F r < mag F (flr F n k + 1) := Nat.lt_of_mul_lt_mul_right (a := 2 ^ k) (by omega)
  have c2 : mag F (flr F n k) < mag F (r + 1) := Nat.lt_of_mul_lt_mul_right (a := 2 ^ k) (by omega)
  have := mag_lt_iff.1 c1
  have := mag_lt_iff.1 c2
  omega

theorem flr_le_iff {F n k r : Nat} : r ≤ flr F n k ↔ mag F r * 2 ^ k ≤ n := by
  obtain ⟨a, b⟩ := flr_spec F n k
  constructor
  · intro h
    exact Nat.le_trans (Nat.mul_le_mul_right _ (mag_le h)) a
  · intro h
    have : mag F r < mag F (flr F n k + 1) := Nat.lt_of_mul_lt_mul_right (a := 2 ^ k) (by omega)
    have := mag_lt_iff.1 this
    omega

theorem nearR_flr (F n k : Nat) : nearR F n k = flr F n k ∨ nearR F n k = flr F n k + 1 := by
  unfold nearR flr rne
  split
  · right; omega
  · left; omega

/-- A number that the format has is its own nearest. -/
theorem nearR_exact {F n k r : Nat} (h : mag F r * 2 ^ k = n) : nearR F n k = r := by
  have hf : flr F n k = r := flr_unique (by omega) (by
    rw [← h]; exact Nat.mul_lt_mul_of_pos_right (mag_lt (by omega)) (Nat.two_pow_pos k))
  rw [← hf]
  unfold nearR flr rne
  have hr : n % 2 ^ (n.log2 - F - k + k) = 0 := by
    obtain ⟨e, he⟩ : ∃ e : Nat, e = n.log2 - F - k := ⟨_, rfl⟩
    rw [← he]
    obtain ⟨h1, h2⟩ := flr_q e he
    have hm : mag F (flr F n k) = n / 2 ^ (e + k) * 2 ^ e := by
      unfold flr; rw [← he]; exact mag_at (by omega) h2
    rw [hf] at hm
    have : n = n / 2 ^ (e + k) * 2 ^ (e + k) := by
      have h5 : n / 2 ^ (e + k) * 2 ^ (e + k) = n / 2 ^ (e + k) * 2 ^ e * 2 ^ k := by rw [Nat.mul_assoc, ← Nat.pow_add]
      rw [h5, ← hm, h]
    have h3 := Nat.div_add_mod n (2 ^ (e + k))
    rw [Nat.mul_comm] at h3
    omega
  rw [hr]
  have := Nat.two_pow_pos (n.log2 - F - k + k)
  rw [if_neg (by omega), Nat.add_zero]
theorem nearR_of_dvd {F n k : Nat} (h : 2 ^ (n.log2 - F - k + k) ∣ n) : nearR F n k = flr F n k := by
  unfold nearR flr rne
  rw [Nat.mod_eq_zero_of_dvd h]
  have := Nat.two_pow_pos (n.log2 - F - k + k)
  rw [if_neg (by omega), Nat.add_zero]

theorem flr_lt {F n k : Nat} {r : Nat} (h : n < mag F r * 2 ^ k) : flr F n k < r := by
  have h1 := (flr_spec F n k).1
  have : mag F (flr F n k) < mag F r := Nat.lt_of_mul_lt_mul_right (a := 2 ^ k) (by omega)
  exact mag_lt_iff.1 this

theorem sign_two (f : Format) : 0 < f.signWeight := Nat.two_pow_pos _

theorem neg_word {f : Format} {s : Bool} {r : Nat} (h : r < f.signWeight) : neg f (f.word s r) = s := by
  have hp := sign_two f
  unfold neg Format.word
  cases s
  · simp [Nat.div_eq_of_lt h]
  · simp only [if_true]
    rw [show f.signWeight + r = r + f.signWeight * 1 from by omega, Nat.add_mul_div_left _ _ hp, Nat.div_eq_of_lt h]
    rfl

theorem rung_word {f : Format} {s : Bool} {r : Nat} (h : r < f.signWeight) : rung f (f.word s r) = r := by
  unfold rung Format.word
  cases s
  · simp [Nat.mod_eq_of_lt h]
  · simp only [if_true]
    rw [Nat.add_mod_left, Nat.mod_eq_of_lt h]

theorem word_neg_rung {f : Format} {x : Nat} (h : x < 2 * f.signWeight) : f.word (neg f x) (rung f x) = x := by
  have hp := sign_two f
  have hd := Nat.div_add_mod x f.signWeight
  have hq : x / f.signWeight < 2 := (Nat.div_lt_iff_lt_mul hp).2 h
  unfold Format.word neg rung
  generalize f.signWeight = W at *
  generalize hq' : x / W = q at *
  have : q = 0 ∨ q = 1 := by omega
  rcases this with rfl | rfl
  · simp at *; omega
  · simp at *; omega

/-- Two words of a format are one, if their signs and rungs are. -/
theorem word_ext {f : Format} {x y : Nat} (hx : x < 2 * f.signWeight) (hy : y < 2 * f.signWeight) (h1 : neg f x = neg f y) (h2 : rung f x = rung f y) : x = y := by
  rw [← word_neg_rung hx, ← word_neg_rung hy, h1, h2]

theorem leastPlace_single : single.leastPlace = -149 := by decide
theorem leastPlace_double : double.leastPlace = -1074 := by decide
theorem infRung_single : single.infRung = 2139095040 := by decide
theorem infRung_double : double.infRung = 9218868437227405312 := by decide
theorem signWeight_single : single.signWeight = 2147483648 := by decide
theorem signWeight_double : double.signWeight = 9223372036854775808 := by decide

/-- The significand of a rung, and what it is shifted by. -/
theorem mag_parts (F r : Nat) : ∃ m d, mag F r = m * 2 ^ d ∧ m < 2 ^ (F + 1) ∧ d = r / 2 ^ F - 1 := by
  have hB : 0 < 2 ^ F := Nat.two_pow_pos F
  unfold mag
  by_cases h : r < 2 ^ F
  · refine ⟨r, _, ?_, ?_, rfl⟩
    · rw [if_pos h, Nat.div_eq_of_lt h]; simp
    · rw [Nat.pow_succ]; omega
  · refine ⟨2 ^ F + r % 2 ^ F, _, by rw [if_neg h], ?_, rfl⟩
    have := Nat.mod_lt r hB
    rw [Nat.pow_succ]; omega

/-- A magnitude of binary32 in units of binary64's least number. -/
def wsh : Nat := 925
theorem wsh_eq : wsh = 925 := rfl
def wideM (r : Nat) : Nat := mag 23 r * 2 ^ wsh

theorem wide_dvd (r : Nat) : 2 ^ ((wideM r).log2 - 52 - 0 + 0) ∣ wideM r := by
  obtain ⟨m, d, h1, h2, h3⟩ := mag_parts 23 r
  unfold wideM
  rw [h1, Nat.mul_assoc, ← Nat.pow_add]
  by_cases hm : m = 0
  · subst hm; rw [Nat.zero_mul]; exact Nat.dvd_zero _
  · rw [log2_mul_pow hm]
    have : m.log2 < 24 := (Nat.log2_lt hm).2 h2
    have := wsh_eq
    exact Nat.dvd_trans (Nat.pow_dvd_pow 2 (by omega)) (Nat.dvd_mul_left _ _)

theorem wide_mag (r : Nat) : mag 52 (flr 52 (wideM r) 0) = wideM r := by
  have h := wide_dvd r
  have hs := flr_spec 52 (wideM r) 0
  have e : nearR 52 (wideM r) 0 = flr 52 (wideM r) 0 := nearR_of_dvd h
  obtain ⟨q, hq⟩ := h
  obtain ⟨e, he⟩ : ∃ e : Nat, e = (wideM r).log2 - 52 - 0 := ⟨_, rfl⟩
  obtain ⟨h1, h2⟩ := flr_q (F := 52) (k := 0) e he
  have : mag 52 (flr 52 (wideM r) 0) = wideM r / 2 ^ (e + 0) * 2 ^ e := by
    unfold flr; rw [← he]; exact mag_at (by omega) h2
  rw [this]
  rw [← he] at hq
  have hp := Nat.two_pow_pos e
  rw [Nat.add_zero] at hq ⊢
  rw [hq, Nat.mul_div_cancel_left _ hp, Nat.mul_comm]

theorem wideM_lt {r s : Nat} : wideM r < wideM s ↔ r < s := by
  unfold wideM
  rw [Nat.mul_lt_mul_right (Nat.two_pow_pos _)]; exact mag_lt_iff

/-- The rung of binary64 of a rung of binary32 that is a number's. -/
def wideRung (r : Nat) : Nat := if r < 2139095040 then flr 52 (wideM r) 0 else 9218868437227405312

theorem wideRung_fin {r : Nat} (h : r < 2139095040) : flr 52 (wideM r) 0 < 9218868437227405312 := by
  apply flr_lt
  rw [Nat.pow_zero, Nat.mul_one]
  have h1 : wideM r < wideM 2139095040 := wideM_lt.2 h
  obtain ⟨a, ha⟩ : ∃ a, a = 254 := ⟨_, rfl⟩
  obtain ⟨b, hb⟩ : ∃ b, b = 2046 := ⟨_, rfl⟩
  have h2 : mag 23 2139095040 = 2 ^ 23 * 2 ^ a := by
    have := mag_at (F := 23) (e := a) (q := 2 ^ 23) (by omega) (fun _ => Nat.le_refl _)
    rw [← this, ha]
  have h3 : mag 52 9218868437227405312 = 2 ^ 52 * 2 ^ b := by
    have := mag_at (F := 52) (e := b) (q := 2 ^ 52) (by omega) (fun _ => Nat.le_refl _)
    rw [← this, hb]
  rw [h3]
  refine Nat.lt_of_lt_of_le h1 ?_
  unfold wideM
  rw [h2, ← Nat.pow_add, ← Nat.pow_add, ← Nat.pow_add]
  have := wsh_eq
  exact Nat.pow_le_pow_right (by decide) (by omega)

theorem wideRung_lt {r : Nat} : wideRung r ≤ 9218868437227405312 := by
  unfold wideRung
  split
  · rename_i h; have := wideRung_fin h; omega
  · omega

theorem wideRung_inf {r : Nat} (h : r ≤ 2139095040) : wideRung r = 9218868437227405312 ↔ r = 2139095040 := by
  unfold wideRung
  split
  · rename_i h1; have := wideRung_fin h1; omega
  · omega

theorem wideRung_mono {r s : Nat} (hr : r ≤ 2139095040) (hs : s ≤ 2139095040) : wideRung r < wideRung s ↔ r < s := by
  unfold wideRung
  by_cases h1 : r < 2139095040
  · rw [if_pos h1]
    by_cases h2 : s < 2139095040
    · rw [if_pos h2, ← mag_lt_iff (F := 52), wide_mag, wide_mag, wideM_lt]
    · rw [if_neg h2]; have := wideRung_fin h1; omega
  · rw [if_neg h1]
    by_cases h2 : s < 2139095040
    · rw [if_pos h2]; have := wideRung_fin h2; omega
    · rw [if_neg h2]; omega

/-- The conversion of a float32 that is no NaN. -/
theorem widen {x : Nat} (h : nan single x = false) : floatToFloatBits .f32 x .f64 = some (double.word (neg single x) (wideRung (rung single x))) := by
  have hi := infRung_single
  have hi2 := infRung_double
  have hr : rung single x ≤ 2139095040 := by have := of_decide_eq_false h; omega
  unfold floatToFloatBits
  rw [if_neg (by decide)]
  have hd : FloatKind.f32.decode x = datum single (neg single x) (rung single x) := read_datum h
  rw [hd]
  by_cases h1 : rung single x < 2139095040
  · obtain ⟨m, d, e1, e2⟩ := datum_mag (f := single) (s := neg single x) (r := rung single x) (by omega)
    rw [e1]
    dsimp only
    have he : FloatKind.f64.encode (.number (neg single x) m (single.leastPlace + (d : Nat))) = double.word (neg single x) (wideRung (rung single x)) := by
      show double.nearest (neg single x) m (single.leastPlace + (d : Nat)) = _
      unfold wideRung
      rw [if_pos h1]
      by_cases hm : m = 0
      · have h0 : mag 23 (rung single x) = 0 := by
          show mag single.fractionBits (rung single x) = 0
          rw [← e2, hm, Nat.zero_mul]
        have : flr 52 (wideM (rung single x)) 0 = 0 := by
          unfold wideM
          rw [h0, Nat.zero_mul]; rfl
        rw [this, hm]; rfl
      · rw [nearest_eq (d + wsh) 0 hm (by rw [leastPlace_single, leastPlace_double]; have := wsh_eq; omega)]
        have e3 : m * 2 ^ (d + wsh) = wideM (rung single x) := by
          unfold wideM
          rw [Nat.pow_add, ← Nat.mul_assoc, e2]; rfl
        rw [e3]
        have e4 : nearR double.fractionBits (wideM (rung single x)) 0 = flr 52 (wideM (rung single x)) 0 := nearR_of_dvd (wide_dvd _)
        rw [e4, Nat.min_eq_left (by have := wideRung_fin h1; omega)]
    rw [he]
    have hw : wideRung (rung single x) < 9218868437227405312 := by unfold wideRung; rw [if_pos h1]; exact wideRung_fin h1
    have hs := signWeight_double
    have hn : nan double (double.word (neg single x) (wideRung (rung single x))) = false := by
      unfold nan
      rw [rung_word (by omega)]
      exact decide_eq_false (by omega)
    have hd2 : FloatKind.f64.decode (double.word (neg single x) (wideRung (rung single x))) = datum double (neg single x) (wideRung (rung single x)) := by
      have := read_datum hn
      rw [neg_word (by omega), rung_word (by omega)] at this
      exact this
    rw [hd2]
    obtain ⟨m', d', e5, _⟩ := datum_mag (f := double) (s := neg single x) (r := wideRung (rung single x)) (by omega)
    rw [e5]
    rfl
  · rw [datum_inf fit_single (by omega)]
    dsimp only
    have : wideRung (rung single x) = 9218868437227405312 := by unfold wideRung; rw [if_neg h1]
    rw [this]
    rfl

end Go.Proofs.Ytamaeggkpdgaiaa.Fl
