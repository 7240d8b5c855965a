/- The walks of the order of binary32, and of the law ShortReads. -/
import Derived.Test.YtamaeggkpdgaiaaWi
namespace Go.Proofs.Ytamaeggkpdgaiaa
open Go.RowKit

def clsN (M : Nat) : Nat := if M = 2139095040 then 3 else if 8388608 ≤ M then 2 else if 0 < M then 1 else 0
def classS (x M : Nat) : Int := if 2139095040 < M then 0 else if x = M then 5 + (clsN M : Int) else 4 - (clsN M : Int)

theorem andNot31 {x : Nat} (hx : W32 x) : bits .andNot .u64 (x : Int) 2147483648 = ((x % 2147483648 : Nat) : Int) := by
  unfold W32 at hx
  have h := u64_andNot_nat x 2147483648 (by omega) (by decide)
  have e : ((2147483648 : Nat) : Int) = 2147483648 := rfl
  rw [e] at h
  rw [h]
  have e2 : x &&& (18446744073709551615 - 2147483648) = x % 2147483648 := by
    apply Nat.eq_of_testBit_eq
    intro i
    have h3 : (18446744073709551615 - 2147483648 : Nat) = 2 ^ 64 - (2 ^ 31 + 1) := by decide
    have h4 : (2147483648 : Nat) = 2 ^ 31 := by decide
    rw [Nat.testBit_and, h3, Nat.testBit_two_pow_sub_succ (by decide), h4, Nat.testBit_mod_two_pow, Nat.testBit_two_pow]
    by_cases h5 : i < 31
    · have h6 : ¬ 31 = i := by omega
      simp [h5, h6]; intro; omega
    · by_cases h6 : 31 = i
      · subst h6; simp
      · have h7 : x.testBit i = false := Nat.testBit_lt_two_pow (Nat.lt_of_lt_of_le hx (by
          have : 2 ^ 32 ≤ 2 ^ i := Nat.pow_le_pow_right (by decide) (by omega)
          omega))
        simp [h5, h7]
  rw [e2]

set_option maxRecDepth 100000 in
set_option maxHeartbeats 1000000 in
theorem class32_aux (x M : Nat) (hx : W32 x) (hm : bits .andNot .u64 (x : Int) 2147483648 = (M : Int)) (a b c d e : Bool)
    (ha : decide ((2139095040 : Int) < (M : Int)) = a) (hb : ((M : Int) == 2139095040) = b) (hc : decide ((8388608 : Int) ≤ (M : Int)) = c) (hd : decide (0 < M) = d) (he : ((x : Int) != (M : Int)) = e) (w : World) :
    Calls Try.prog 147 #[.float .f32 x] w fun en w' => en = .returned (.int .i64 (if a then 0 else if e then 4 - (if b then 3 else if c then 2 else if d then 1 else 0) else 5 + (if b then 3 else if c then 2 else if d then 1 else 0))) ∧ Below w.heap.size w w' := by
  cases a
  · cases b
    · cases c
      · cases d
        · cases e
          all_goals
            go_enter Try.func147, Try.ntmps147
            go_wp2_with (first | (go_at_call 133; refine (format32_any _).mono ?_; rintro e w1 ⟨rfl, hb⟩; obtain ⟨hc, hf⟩ := bcell hb; (try have hz0 : w.heap.size < w1.heap.size := (by have := hb.size; (try simp at this); omega)); (try have hz1 : w.heap.size + 1 < w1.heap.size := (by have := hb.size; (try simp at this); omega)); (try have hz2 : w.heap.size + 2 < w1.heap.size := (by have := hb.size; (try simp at this); omega)); (try have hs0 : w.heap.size ≤ w1.heap.size := (by have := hb.size; (try simp at this); omega))) | (go_at_call 134; refine (pattern32_any _ (by assumption) _).mono ?_; rintro e w' ⟨rfl, rfl⟩))
            all_goals
              go_ret
              exact ⟨by simp, (by repeat (first | exact Below.refl _ _ | (refine Below.alloc ?_ (by first | exact Nat.le_refl _ | omega | (simp; done) | (simp; omega)) _) | refine Below.drew ?_ | refine below_drewN ?_ _ | (refine Below.setCell ?_ (by first | exact Nat.le_refl _ | omega | (simp; done) | (simp; omega)) _) | refine below_then ?_ (by assumption)))⟩
        · cases e
          all_goals
            go_enter Try.func147, Try.ntmps147
            go_wp2_with (first | (go_at_call 133; refine (format32_any _).mono ?_; rintro e w1 ⟨rfl, hb⟩; obtain ⟨hc, hf⟩ := bcell hb; (try have hz0 : w.heap.size < w1.heap.size := (by have := hb.size; (try simp at this); omega)); (try have hz1 : w.heap.size + 1 < w1.heap.size := (by have := hb.size; (try simp at this); omega)); (try have hz2 : w.heap.size + 2 < w1.heap.size := (by have := hb.size; (try simp at this); omega)); (try have hs0 : w.heap.size ≤ w1.heap.size := (by have := hb.size; (try simp at this); omega))) | (go_at_call 134; refine (pattern32_any _ (by assumption) _).mono ?_; rintro e w' ⟨rfl, rfl⟩))
            all_goals
              go_ret
              exact ⟨by simp, (by repeat (first | exact Below.refl _ _ | (refine Below.alloc ?_ (by first | exact Nat.le_refl _ | omega | (simp; done) | (simp; omega)) _) | refine Below.drew ?_ | refine below_drewN ?_ _ | (refine Below.setCell ?_ (by first | exact Nat.le_refl _ | omega | (simp; done) | (simp; omega)) _) | refine below_then ?_ (by assumption)))⟩
      · clear hd; cases e
        all_goals
          go_enter Try.func147, Try.ntmps147
          go_wp2_with (first | (go_at_call 133; refine (format32_any _).mono ?_; rintro e w1 ⟨rfl, hb⟩; obtain ⟨hc, hf⟩ := bcell hb; (try have hz0 : w.heap.size < w1.heap.size := (by have := hb.size; (try simp at this); omega)); (try have hz1 : w.heap.size + 1 < w1.heap.size := (by have := hb.size; (try simp at this); omega)); (try have hz2 : w.heap.size + 2 < w1.heap.size := (by have := hb.size; (try simp at this); omega)); (try have hs0 : w.heap.size ≤ w1.heap.size := (by have := hb.size; (try simp at this); omega))) | (go_at_call 134; refine (pattern32_any _ (by assumption) _).mono ?_; rintro e w' ⟨rfl, rfl⟩))
          all_goals
            go_ret
            exact ⟨by simp, (by repeat (first | exact Below.refl _ _ | (refine Below.alloc ?_ (by first | exact Nat.le_refl _ | omega | (simp; done) | (simp; omega)) _) | refine Below.drew ?_ | refine below_drewN ?_ _ | (refine Below.setCell ?_ (by first | exact Nat.le_refl _ | omega | (simp; done) | (simp; omega)) _) | refine below_then ?_ (by assumption)))⟩
    · clear hc hd; cases e
      all_goals
        go_enter Try.func147, Try.ntmps147
        go_wp2_with (first | (go_at_call 133; refine (format32_any _).mono ?_; rintro e w1 ⟨rfl, hb⟩; obtain ⟨hc, hf⟩ := bcell hb; (try have hz0 : w.heap.size < w1.heap.size := (by have := hb.size; (try simp at this); omega)); (try have hz1 : w.heap.size + 1 < w1.heap.size := (by have := hb.size; (try simp at this); omega)); (try have hz2 : w.heap.size + 2 < w1.heap.size := (by have := hb.size; (try simp at this); omega)); (try have hs0 : w.heap.size ≤ w1.heap.size := (by have := hb.size; (try simp at this); omega))) | (go_at_call 134; refine (pattern32_any _ (by assumption) _).mono ?_; rintro e w' ⟨rfl, rfl⟩))
        all_goals
          go_ret
          exact ⟨by simp, (by repeat (first | exact Below.refl _ _ | (refine Below.alloc ?_ (by first | exact Nat.le_refl _ | omega | (simp; done) | (simp; omega)) _) | refine Below.drew ?_ | refine below_drewN ?_ _ | (refine Below.setCell ?_ (by first | exact Nat.le_refl _ | omega | (simp; done) | (simp; omega)) _) | refine below_then ?_ (by assumption)))⟩
  · clear hb hc hd he
    go_enter Try.func147, Try.ntmps147
    go_wp2_with (first | (go_at_call 133; refine (format32_any _).mono ?_; rintro e w1 ⟨rfl, hb⟩; obtain ⟨hc, hf⟩ := bcell hb; (try have hz0 : w.heap.size < w1.heap.size := (by have := hb.size; (try simp at this); omega)); (try have hz1 : w.heap.size + 1 < w1.heap.size := (by have := hb.size; (try simp at this); omega)); (try have hz2 : w.heap.size + 2 < w1.heap.size := (by have := hb.size; (try simp at this); omega)); (try have hs0 : w.heap.size ≤ w1.heap.size := (by have := hb.size; (try simp at this); omega))) | (go_at_call 134; refine (pattern32_any _ (by assumption) _).mono ?_; rintro e w' ⟨rfl, rfl⟩))
    all_goals
      go_ret
      exact ⟨by simp, (by repeat (first | exact Below.refl _ _ | (refine Below.alloc ?_ (by first | exact Nat.le_refl _ | omega | (simp; done) | (simp; omega)) _) | refine Below.drew ?_ | refine below_drewN ?_ _ | (refine Below.setCell ?_ (by first | exact Nat.le_refl _ | omega | (simp; done) | (simp; omega)) _) | refine below_then ?_ (by assumption)))⟩

theorem class32_rank (x : Nat) (hx : W32 x) : ∃ c : Int, ((c == 4) = decide (x = 2147483648)) ∧ ∀ w, Calls Try.prog 147 #[.float .f32 x] w fun en w' => en = .returned (.int .i64 c) ∧ Below w.heap.size w w' := by
  refine ⟨_, ?_, fun w => class32_aux x (x % 2147483648) hx (andNot31 hx) _ _ _ _ _ rfl rfl rfl rfl rfl w⟩
  unfold W32 at hx
  rw [Bool.eq_iff_iff]
  by_cases h1 : 2139095040 < x % 2147483648
  · have h1' : (2139095040 : Int) < ((x % 2147483648 : Nat) : Int) := by omega
    rw [decide_eq_true h1']; simp; omega
  · have h1' : ¬ (2139095040 : Int) < ((x % 2147483648 : Nat) : Int) := by omega
    rw [decide_eq_false h1']
    by_cases h2 : x % 2147483648 = 2139095040
    · rw [h2]; by_cases h3 : x = 2139095040
      · subst h3; decide
      · have : ((x : Int) != ((2139095040 : Nat) : Int)) = true := by simp; omega
        rw [this]; simp; omega
    · have h2' : (((x % 2147483648 : Nat) : Int) == 2139095040) = false := by rw [beq_eq_false_iff_ne]; omega
      rw [h2']
      by_cases h3 : x = x % 2147483648
      · have : ((x : Int) != ((x % 2147483648 : Nat) : Int)) = false := by rw [← h3]; simp
        rw [this]
        by_cases h4 : (8388608 : Int) ≤ ((x % 2147483648 : Nat) : Int)
        · rw [decide_eq_true h4]; simp; omega
        · rw [decide_eq_false h4]; by_cases h5 : 0 < x % 2147483648
          · rw [decide_eq_true h5]; simp; omega
          · rw [decide_eq_false h5]; simp; omega
      · have : ((x : Int) != ((x % 2147483648 : Nat) : Int)) = true := by simp; omega
        rw [this]
        by_cases h4 : (8388608 : Int) ≤ ((x % 2147483648 : Nat) : Int)
        · rw [decide_eq_true h4]; simp; omega
        · rw [decide_eq_false h4]; by_cases h5 : 0 < x % 2147483648
          · rw [decide_eq_true h5]; simp; omega
          · rw [decide_eq_false h5]; simp; omega

def rankS (x : Nat) : Int := if x = 2147483648 then 0 else 1
def nnS (x : Nat) : Int := if nanS x then 1 else 0
def ordS (x y : Nat) : Int :=
  if FloatKind.f32.format.order x y == some .lt then -1 else if FloatKind.f32.format.order x y == some .gt then 1
  else if FloatKind.f32.format.order x y == some .eq then rankS x - rankS y else nnS x - nnS y

theorem ordS_zero {x y : Nat} (hx : W32 x) (hy : W32 y) (hn : nanS y = false) : (ordS x y == 0) = ((x : Int) == (y : Int)) := by
  unfold ordS
  cases h : nanS x
  · rw [order_f32 h hn, ord_lt, ord_gt, ord_eq]
    unfold rankS nnS
    rw [h, hn, Bool.eq_iff_iff]
    obtain ⟨r, hr, rfl | rfl⟩ := w32_cases hx <;> obtain ⟨u, hu, rfl | rfl⟩ := w32_cases hy <;>
      (first | rw [kS_pos hr] | rw [kS_neg hr]) <;> (first | rw [kS_pos hu] | rw [kS_neg hu]) <;> simp <;> (repeat' split) <;> (first | omega | (simp; omega))
  · rw [order_f32_nan (Or.inl h)]
    unfold nnS
    rw [h, hn, Bool.eq_iff_iff]
    have : x ≠ y := by rintro rfl; rw [h] at hn; cases hn
    simp; omega

set_option maxRecDepth 100000 in
set_option maxHeartbeats 400000 in
theorem rank32_any (x : Nat) (hx : W32 x) (w : World) :
    Calls Try.prog 114 #[.float .f32 x] w fun e w' => e = .returned (.int .i64 (rankS x)) ∧ Below w.heap.size w w' := by
  obtain ⟨c, h4, hC⟩ := class32_rank x hx
  by_cases h : x = 2147483648
  all_goals
    have hr : Hid (rankS x = _) := Lib.hid (by unfold rankS; first | rw [if_pos h] | rw [if_neg h])
    simp only [h, decide_true, decide_false] at h4
    have HC := Lib.hid hC; clear hC h
    go_enter Try.func114, Try.ntmps114
    go_wp2_with (go_at_call 147; refine (HC.out _).mono ?_; rintro e w1 ⟨rfl, hb⟩)
    go_ret
    exact ⟨ret_int (by rw [hr.out]), by assumption⟩

set_option maxRecDepth 100000 in
set_option maxHeartbeats 400000 in
theorem nn32_any (x : Nat) (w : World) :
    Calls Try.prog 115 #[.float .f32 x] w fun e w' => e = .returned (.int .i64 (nnS x)) ∧ w = w' := by
  have h1 : (FloatKind.f32.format.order x x != some .eq) = nanS x := by
    cases h : nanS x
    · rw [order_f32 h h]; simp
    · rw [order_f32_nan (Or.inl h)]; rfl
  cases h : nanS x
  all_goals
    have hr : Hid (nnS x = _) := Lib.hid (by unfold nnS; rw [h])
    rw [h] at h1; clear h
    go_enter Try.func115, Try.ntmps115
    go_wp2
    go_ret
    exact ⟨ret_int (by rw [hr.out]; rfl), rfl⟩

set_option maxRecDepth 100000 in
set_option maxHeartbeats 400000 in
theorem order32_any (x y : Nat) (hx : W32 x) (hy : W32 y) (w : World) :
    Calls Try.prog 73 #[.float .f32 x, .float .f32 y] w fun e w' => e = .returned (.int .i64 (ordS x y)) ∧ Below w.heap.size w w' := by
  have b1 : 0 ≤ rankS x ∧ rankS x ≤ 1 := by unfold rankS; split <;> omega
  have b2 : 0 ≤ rankS y ∧ rankS y ≤ 1 := by unfold rankS; split <;> omega
  have b3 : 0 ≤ nnS x ∧ nnS x ≤ 1 := by unfold nnS; split <;> omega
  have b4 : 0 ≤ nnS y ∧ nnS y ≤ 1 := by unfold nnS; split <;> omega
  obtain ⟨b1, b1'⟩ := b1; obtain ⟨b2, b2'⟩ := b2; obtain ⟨b3, b3'⟩ := b3; obtain ⟨b4, b4'⟩ := b4
  cases h1 : (FloatKind.f32.format.order x y == some .lt)
  · cases h2 : (FloatKind.f32.format.order x y == some .gt)
    · cases h3 : (FloatKind.f32.format.order x y == some .eq)
      · skip
        have hr : Hid (ordS x y = _) := Lib.hid (by unfold ordS; rw [h1, h2, h3])
        go_enter Try.func73, Try.ntmps73
        go_wp2_with (first | (go_at_call 114; refine (rank32_any _ (by assumption) _).mono ?_; rintro e w1 ⟨rfl, hb⟩; obtain ⟨hc, hf⟩ := bcell hb; (try have hz0 : w.heap.size < w1.heap.size := (by have := hb.size; (try simp at this); omega)); (try have hz1 : w.heap.size + 1 < w1.heap.size := (by have := hb.size; (try simp at this); omega)); (try have hz2 : w.heap.size + 2 < w1.heap.size := (by have := hb.size; (try simp at this); omega)); (try have hs0 : w.heap.size ≤ w1.heap.size := (by have := hb.size; (try simp at this); omega))) | (go_at_call 115; refine (nn32_any _ _).mono ?_; rintro e w' ⟨rfl, rfl⟩))
        go_ret
        exact ⟨ret_int (by rw [hr.out]; first | rfl | (simp; done)), (by repeat (first | exact Below.refl _ _ | (refine Below.alloc ?_ (by first | exact Nat.le_refl _ | omega | (simp; done) | (simp; omega)) _) | refine Below.drew ?_ | refine below_drewN ?_ _ | (refine Below.setCell ?_ (by first | exact Nat.le_refl _ | omega | (simp; done) | (simp; omega)) _) | refine below_then ?_ (by assumption)))⟩
      · skip
        have hr : Hid (ordS x y = _) := Lib.hid (by unfold ordS; rw [h1, h2, h3])
        go_enter Try.func73, Try.ntmps73
        go_wp2_with (first | (go_at_call 114; refine (rank32_any _ (by assumption) _).mono ?_; rintro e w1 ⟨rfl, hb⟩; obtain ⟨hc, hf⟩ := bcell hb; (try have hz0 : w.heap.size < w1.heap.size := (by have := hb.size; (try simp at this); omega)); (try have hz1 : w.heap.size + 1 < w1.heap.size := (by have := hb.size; (try simp at this); omega)); (try have hz2 : w.heap.size + 2 < w1.heap.size := (by have := hb.size; (try simp at this); omega)); (try have hs0 : w.heap.size ≤ w1.heap.size := (by have := hb.size; (try simp at this); omega))) | (go_at_call 115; refine (nn32_any _ _).mono ?_; rintro e w' ⟨rfl, rfl⟩))
        go_ret
        exact ⟨ret_int (by rw [hr.out]; first | rfl | (simp; done)), (by repeat (first | exact Below.refl _ _ | (refine Below.alloc ?_ (by first | exact Nat.le_refl _ | omega | (simp; done) | (simp; omega)) _) | refine Below.drew ?_ | refine below_drewN ?_ _ | (refine Below.setCell ?_ (by first | exact Nat.le_refl _ | omega | (simp; done) | (simp; omega)) _) | refine below_then ?_ (by assumption)))⟩
    · skip
      have hr : Hid (ordS x y = _) := Lib.hid (by unfold ordS; rw [h1, h2])
      go_enter Try.func73, Try.ntmps73
      go_wp2_with (first | (go_at_call 114; refine (rank32_any _ (by assumption) _).mono ?_; rintro e w1 ⟨rfl, hb⟩; obtain ⟨hc, hf⟩ := bcell hb; (try have hz0 : w.heap.size < w1.heap.size := (by have := hb.size; (try simp at this); omega)); (try have hz1 : w.heap.size + 1 < w1.heap.size := (by have := hb.size; (try simp at this); omega)); (try have hz2 : w.heap.size + 2 < w1.heap.size := (by have := hb.size; (try simp at this); omega)); (try have hs0 : w.heap.size ≤ w1.heap.size := (by have := hb.size; (try simp at this); omega))) | (go_at_call 115; refine (nn32_any _ _).mono ?_; rintro e w' ⟨rfl, rfl⟩))
      go_ret
      exact ⟨ret_int (by rw [hr.out]; first | rfl | (simp; done)), (by repeat (first | exact Below.refl _ _ | (refine Below.alloc ?_ (by first | exact Nat.le_refl _ | omega | (simp; done) | (simp; omega)) _) | refine Below.drew ?_ | refine below_drewN ?_ _ | (refine Below.setCell ?_ (by first | exact Nat.le_refl _ | omega | (simp; done) | (simp; omega)) _) | refine below_then ?_ (by assumption)))⟩
  · skip
    have hr : Hid (ordS x y = _) := Lib.hid (by unfold ordS; rw [h1])
    go_enter Try.func73, Try.ntmps73
    go_wp2_with (first | (go_at_call 114; refine (rank32_any _ (by assumption) _).mono ?_; rintro e w1 ⟨rfl, hb⟩; obtain ⟨hc, hf⟩ := bcell hb; (try have hz0 : w.heap.size < w1.heap.size := (by have := hb.size; (try simp at this); omega)); (try have hz1 : w.heap.size + 1 < w1.heap.size := (by have := hb.size; (try simp at this); omega)); (try have hz2 : w.heap.size + 2 < w1.heap.size := (by have := hb.size; (try simp at this); omega)); (try have hs0 : w.heap.size ≤ w1.heap.size := (by have := hb.size; (try simp at this); omega))) | (go_at_call 115; refine (nn32_any _ _).mono ?_; rintro e w' ⟨rfl, rfl⟩))
    go_ret
    exact ⟨ret_int (by rw [hr.out]; first | rfl | (simp; done)), (by repeat (first | exact Below.refl _ _ | (refine Below.alloc ?_ (by first | exact Nat.le_refl _ | omega | (simp; done) | (simp; omega)) _) | refine Below.drew ?_ | refine below_drewN ?_ _ | (refine Below.setCell ?_ (by first | exact Nat.le_refl _ | omega | (simp; done) | (simp; omega)) _) | refine below_then ?_ (by assumption)))⟩

theorem w32_plain {x : Nat} (hx : W32 x) : W32 (plainF .f32 x) := by unfold plainF; split; (unfold W32; omega); exact hx
theorem w32_lo {x y : Nat} (hx : W32 x) : W32 (readLoS x y) := by unfold readLoS; split; exact w32_plain hx; (unfold W32; omega)
theorem w32_hi {x y : Nat} (hy : W32 y) : W32 (readHiS x y) := by unfold readHiS; split; exact w32_plain hy; (unfold W32; omega)

set_option maxRecDepth 100000 in
set_option maxHeartbeats 400000 in
theorem validS_any (x y : Nat) (hx : W32 x) (hy : W32 y) (w : World) :
    Calls Try.prog 34 #[.agg #[.float .f32 x, .float .f32 y]] w fun e w' => e = .returned (.bool (((x : Int) == (readLoS x y : Int)) && ((y : Int) == (readHiS x y : Int)))) ∧ Below w.heap.size w w' := by
  have h1 := ordS_zero hx (w32_lo (y := y) hx) (readLoS_nan x y)
  have h2 := ordS_zero hy (w32_hi (x := x) hy) (readHiS_nan x y)
  have wl := w32_lo (y := y) hx
  have wh := w32_hi (x := x) hy
  rw [← h1, ← h2]
  clear h1 h2
  cases h1e : (ordS x (readLoS x y) == 0)
  case false =>
    have H1 := Lib.hid h1e
    go_enter Try.func34, Try.ntmps34
    go_wp2_with (first
        | (go_at_call 32; refine (readS_any _ _ _).mono ?_; rintro e w1 ⟨rfl, hb⟩; obtain ⟨hc, hf⟩ := bcell hb; (try have hz0 : w.heap.size < w1.heap.size := (by have := hb.size; (try simp at this); omega)); (try have hz1 : w.heap.size + 1 < w1.heap.size := (by have := hb.size; (try simp at this); omega)); (try have hz2 : w.heap.size + 2 < w1.heap.size := (by have := hb.size; (try simp at this); omega)); (try have hs0 : w.heap.size ≤ w1.heap.size := (by have := hb.size; (try simp at this); omega)); (try first | rw [H1.out]))
        | (go_at_call 73; refine (order32_any _ _ (by assumption) (by assumption) _).mono ?_; rintro e w1 ⟨rfl, hb⟩; obtain ⟨hc, hf⟩ := bcell hb; (try have hz0 : w.heap.size < w1.heap.size := (by have := hb.size; (try simp at this); omega)); (try have hz1 : w.heap.size + 1 < w1.heap.size := (by have := hb.size; (try simp at this); omega)); (try have hz2 : w.heap.size + 2 < w1.heap.size := (by have := hb.size; (try simp at this); omega)); (try have hs0 : w.heap.size ≤ w1.heap.size := (by have := hb.size; (try simp at this); omega)); (try first | rw [H1.out])))
    all_goals
      go_ret
      exact ⟨ret_bool (by first | rfl | (simp; done)), (by repeat (first | exact Below.refl _ _ | (refine Below.alloc ?_ (by first | exact Nat.le_refl _ | omega | (simp; done) | (simp; omega)) _) | refine Below.drew ?_ | refine below_drewN ?_ _ | (refine Below.setCell ?_ (by first | exact Nat.le_refl _ | omega | (simp; done) | (simp; omega)) _) | refine below_then ?_ (by assumption)))⟩
  case true =>
    have H1 := Lib.hid h1e
    go_enter Try.func34, Try.ntmps34
    go_wp2_with (first
        | (go_at_call 32; refine (readS_any _ _ _).mono ?_; rintro e w1 ⟨rfl, hb⟩; obtain ⟨hc, hf⟩ := bcell hb; (try have hz0 : w.heap.size < w1.heap.size := (by have := hb.size; (try simp at this); omega)); (try have hz1 : w.heap.size + 1 < w1.heap.size := (by have := hb.size; (try simp at this); omega)); (try have hz2 : w.heap.size + 2 < w1.heap.size := (by have := hb.size; (try simp at this); omega)); (try have hs0 : w.heap.size ≤ w1.heap.size := (by have := hb.size; (try simp at this); omega)); (try first | rw [H1.out]))
        | (go_at_call 73; refine (order32_any _ _ (by assumption) (by assumption) _).mono ?_; rintro e w1 ⟨rfl, hb⟩; obtain ⟨hc, hf⟩ := bcell hb; (try have hz0 : w.heap.size < w1.heap.size := (by have := hb.size; (try simp at this); omega)); (try have hz1 : w.heap.size + 1 < w1.heap.size := (by have := hb.size; (try simp at this); omega)); (try have hz2 : w.heap.size + 2 < w1.heap.size := (by have := hb.size; (try simp at this); omega)); (try have hs0 : w.heap.size ≤ w1.heap.size := (by have := hb.size; (try simp at this); omega)); (try first | rw [H1.out])))
    all_goals
      go_ret
      exact ⟨ret_bool (by first | rfl | (simp; done)), (by repeat (first | exact Below.refl _ _ | (refine Below.alloc ?_ (by first | exact Nat.le_refl _ | omega | (simp; done) | (simp; omega)) _) | refine Below.drew ?_ | refine below_drewN ?_ _ | (refine Below.setCell ?_ (by first | exact Nat.le_refl _ | omega | (simp; done) | (simp; omega)) _) | refine below_then ?_ (by assumption)))⟩

end Go.Proofs.Ytamaeggkpdgaiaa
