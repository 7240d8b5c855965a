/- The walks of the reference's numbers: Small, Word, Len, Bit, Zeros. -/
import Derived.Test.YtamaeggkpdgaiaaNc
import Derived.Test.YtamaeggkpdgaiaaNe
namespace Go.Proofs.Ytamaeggkpdgaiaa
open Go.RowKit

theorem two_digits {v : Nat} : v / 4294967296 % 4294967296 = dig v 1 := by unfold dig; rw [Nat.pow_one]
theorem dig_zero (v : Nat) : dig v 0 = v % 4294967296 := by unfold dig; rw [Nat.pow_zero, Nat.div_one]
theorem dig_one {v : Nat} (h : v < 18446744073709551616) : dig v 1 = v / 4294967296 := by
  unfold dig; rw [Nat.pow_one, Nat.mod_eq_of_lt (by omega)]

set_option maxRecDepth 100000 in
set_option maxHeartbeats 400000 in
theorem small_any (v : Nat) (hv : v < 18446744073709551616) (w : World) :
    Calls Try.prog 146 #[.int .u64 (v : Int)] w fun e w' => NumP w v e w' := by
  have e1 := and_low32 hv
  have b1 : ((v % 4294967296 : Nat) : Int) < 4294967296 := by omega
  have b2 : (v : Int) / 4294967296 < 4294967296 := by omega
  have b3 : 0 ≤ (v : Int) / 4294967296 := by omega
  go_enter Try.func146, Try.ntmps146
  go_wp2_with fail
  clear e1
  have hnum : NumR (w.alloc (.cells #[.int .u32 ((v % 4294967296 : Nat) : Int), .int .u32 ((v : Int) / 4294967296)] 22)) (w.alloc (.cells #[.int .u32 ((v % 4294967296 : Nat) : Int), .int .u32 ((v : Int) / 4294967296)] 22)).heap.size (some ⟨w.heap.size, 0, none⟩) 2 v := by
    refine ⟨by simp; omega, fun _ => ⟨_, _, rfl, by simp, fun i hi j hj => ?_⟩⟩
    obtain rfl : j = 0 := by omega
    rcases (show i = 0 ∨ i = 1 by omega) with rfl | rfl
    · simp [go_sem, dig_zero]
    · simp [go_sem, dig_one hv]
  refine (norm_any _ 2 2 v _ (by omega) (by simpa using hnum)).mono ?_
  rintro e w1 ⟨A, cap, rfl, h1, h2, h3⟩
  have H1 := Lib.hid h1; have H2 := Lib.hid h2; have H3 := Lib.hid h3; clear h1 h2 h3 hnum
  go_wp2
  go_ret
  exact ⟨A, cap, rfl, H1.out, H2.out, below_then (by repeat (first | exact Below.refl _ _ | assumption | (refine Below.alloc ?_ (by first | exact Nat.le_refl _ | omega | (simp; done) | (simp; omega)) _) | refine Below.drew ?_ | refine below_drewN ?_ _ | (refine Below.setCell ?_ (by first | exact Nat.le_refl _ | omega | (simp; done) | (simp; omega)) _) | refine below_then ?_ (by assumption))) H3.out⟩

set_option maxRecDepth 100000 in
set_option maxHeartbeats 400000 in
theorem word_any (A : Option Addr) (n cap N : Nat) (w : World) (hn : n ≤ 140737488351232) (hN : wN N ≤ 2) (h : NumR w w.heap.size A n N) :
    Calls Try.prog 143 #[.slice A n cap] w fun e w' => e = .returned (.tuple #[.int .u64 (N : Int), .bool true]) ∧ w = w' := by
  have HN := Lib.hid h; have HW := Lib.hid hN; clear h
  have hw2 : (wN N : Int) ≤ 2 := by omega
  have hlt : N < 18446744073709551616 := by have := wN_le.1 hN; simpa using this
  go_enter Try.func143, Try.ntmps143
  go_wp2_with (go_at_call 155; refine (words_any A n cap N _ hn HN.out).mono ?_; rintro e w' ⟨rfl, rfl⟩)
  go_loop [5, 6] (fun v i => ∃ k : Nat, k ≤ wN N ∧ i = .int .i64 ((k : Int) - 1) ∧ v = .int .u64 ((N / 4294967296 ^ k : Nat) : Int)) (fun _ i => (intOf i + 1).toNat)
  case atStart => exact ⟨wN N, Nat.le_refl _, rfl, by rw [Nat.div_eq_of_lt (lt_wN N)]; rfl⟩
  case round =>
    obtain ⟨k, hk, rfl, rfl⟩ := hrel
    rcases Nat.eq_zero_or_pos k with rfl | hp
    · go_wp2
      go_ret2
      exact ⟨by simp, rfl⟩
    · obtain ⟨j, rfl⟩ : ∃ j, k = j + 1 := ⟨k - 1, by omega⟩
      obtain ⟨b, off, rfl, hbB, hc⟩ := HN.out.cells (by have := HN.out.words; omega) (Below.refl _ _)
      have hjn : j < n := by have := HN.out.words; omega
      have c1 := hc j hjn
      have hjn2 : (j : Int) < (n : Int) := by omega
      have hq : N / 4294967296 ^ (j + 1) < 4294967296 := by
        rw [Nat.div_lt_iff_lt_mul (bbp _)]
        have := lt_wN N
        refine Nat.lt_of_lt_of_le this ?_
        rw [← Nat.pow_succ']
        exact Nat.pow_le_pow_right (by decide) (by omega)
      have hst : N / 4294967296 ^ j = N / 4294967296 ^ (j + 1) * 4294967296 + dig N j := by
        unfold dig; rw [Nat.pow_succ, ← Nat.div_div_eq_div_mul]; exact (Nat.div_add_mod' _ _).symm
      have HST := Lib.hid hst
      have hd := dig_lt N j
      generalize N / 4294967296 ^ (j + 1) = q at *
      have hor := or_shift32 hq hd
      clear hc hst
      have hq1 : (q : Int) * 4294967296 < 18446744073709551616 := by omega
      go_wp2
      go_round
      case rel => exact ⟨j, by omega, by go_num, by rw [HST.out]; simp⟩
      case measure => simp [intOf]

theorem lenN_le32 {x : Nat} (h : x < 4294967296) : lenN x ≤ 32 := lenN_le.2 (by simpa using h)

set_option maxRecDepth 100000 in
set_option maxHeartbeats 400000 in
theorem len_any (A : Option Addr) (n cap N : Nat) (w : World) (hn : n ≤ 140737488351232) (h : NumR w w.heap.size A n N) :
    Calls Try.prog 137 #[.slice A n cap] w fun e w' => e = .returned (.int .i64 (lenN N : Int)) ∧ w = w' := by
  have HN := Lib.hid h; clear h
  have hwn := HN.out.words
  cases h0 : ((wN N : Int) == 0)
  case true =>
    have H0 := Lib.hid h0
    go_enter Try.func137, Try.ntmps137
    go_wp2_with (go_at_call 155; refine (words_any A n cap N _ hn HN.out).mono ?_; rintro e w' ⟨rfl, rfl⟩)
    go_ret
    have : wN N = 0 := by have := H0.out; simp at this; exact this
    rw [wN_zero.1 this]
    exact ⟨rfl, rfl⟩
  case false =>
    have hne : wN N ≠ 0 := by intro h; rw [h] at h0; cases h0
    have hN0 : N ≠ 0 := fun h => hne (wN_zero.2 h)
    have HL := Lib.hid (lenN_top hN0)
    obtain ⟨b, off, rfl, hbB, hc⟩ := HN.out.cells (by omega) (Below.refl _ _)
    obtain ⟨j, hj⟩ : ∃ j, wN N = j + 1 := ⟨wN N - 1, by omega⟩
    have c1 := hc j (by omega)
    have hjn : (j : Int) < (n : Int) := by omega
    have hd := dig_lt N j
    have HJ := Lib.hid hj
    clear hc
    go_enter Try.func137, Try.ntmps137
    go_wp2_with (go_at_call 155; refine (words_any _ n cap N _ hn HN.out).mono ?_; rintro e w' ⟨rfl, rfl⟩; rw [HJ.out])
    clear c1
    rw [hj, Nat.add_sub_cancel] at HL
    generalize dig N j = x at *
    have hx := lenN_le32 hd
    go_loop [4, 5] (fun k v => ∃ t : Nat, t ≤ lenN x ∧ k = .int .i64 (32 * (j : Int) + t) ∧ v = .int .u32 ((x / 2 ^ t : Nat) : Int)) (fun k _ => (32 * (j : Int) + 32 - intOf k).toNat)
    case atStart => exact ⟨0, by omega, by go_num, by simp⟩
    case round =>
      obtain ⟨t, ht, rfl, rfl⟩ := hrel
      by_cases hz : t = lenN x
      · have h1 : x / 2 ^ t = 0 := by rw [hz]; exact Nat.div_eq_of_lt (lt_two_pow_len x)
        rw [h1]
        have HZ := Lib.hid hz; clear hz h1
        go_wp2
        go_ret
        exact ⟨ret_int (by have := HL.out; have := HZ.out; omega), rfl⟩
      · have h1 : 0 < x / 2 ^ t := by
          have := lt_lenN.1 (show t < lenN x by omega)
          exact Nat.div_pos this (Nat.two_pow_pos _)
        have h2 : x / 2 ^ (t + 1) = x / 2 ^ t / 2 := by rw [Nat.pow_succ, ← Nat.div_div_eq_div_mul]
        have H2 := Lib.hid h2; clear h2
        generalize x / 2 ^ t = y at *
        have h3 : (0 : Int) < (y : Int) := by omega
        have h5 : t + 1 ≤ lenN x := by omega
        clear hz
        go_wp2
        go_round
        case rel => exact ⟨t + 1, h5, by go_num, by rw [H2.out]; simp⟩
        case measure => simp [intOf]; omega


theorem bit_and1 {x k : Nat} (hx : x < 4294967296) : bits .and .u32 ((x / 2 ^ k : Nat) : Int) 1 = ((x / 2 ^ k % 2 : Nat) : Int) := by
  have hk : x / 2 ^ k < 4294967296 := Nat.lt_of_le_of_lt (Nat.div_le_self _ _) hx
  have h := u32_and_nat (x / 2 ^ k) 1 hk (by decide)
  have e : ((1 : Nat) : Int) = 1 := rfl
  rw [e] at h
  rw [h, show (1 : Nat) = 2 ^ 1 - 1 from rfl, Nat.and_two_pow_sub_one_eq_mod]

set_option maxRecDepth 100000 in
set_option maxHeartbeats 400000 in
theorem bit_any (A : Option Addr) (n cap N i : Nat) (w : World) (hn : n ≤ 140737488351232) (hi : i < 9223372036854775808) (h : NumR w w.heap.size A n N) :
    Calls Try.prog 162 #[.slice A n cap, .int .i64 (i : Int)] w fun e w' => e = .returned (.int .u32 (bitN N i : Int)) ∧ w = w' := by
  have HN := Lib.hid h; clear h
  rcases Nat.lt_or_ge (i / 32) n with hlt | hge
  · obtain ⟨b, off, rfl, hbB, hc⟩ := HN.out.cells (by omega) (Below.refl _ _)
    have c1 := hc (i / 32) hlt
    have hjn : (i : Int) / 32 < (n : Int) := by omega
    have hjm : (i : Int) % 32 < 32 := by omega
    have HB := Lib.hid (bitN_dig N i)
    have hd := dig_lt N (i / 32)
    generalize dig N (i / 32) = x at *
    have t1 : decide ((i : Int) < 0) = false := by simp; try omega
    have t2 : decide ((n : Int) ≤ (i : Int) / 32) = false := by simp; try omega
    clear hc
    go_enter Try.func162, Try.ntmps162
    go_wp2
    go_ret
    refine ⟨ret_int ?_, rfl⟩
    rw [HB.out]
    exact_mod_cast bit_and1 hd (k := i % 32)
  · have t1 : decide ((i : Int) < 0) = false := by simp; try omega
    have t2 : decide ((n : Int) ≤ (i : Int) / 32) = true := by simp; try omega
    have HB := Lib.hid (bitN_high HN.out.1 hge)
    go_enter Try.func162, Try.ntmps162
    go_wp2
    go_ret
    exact ⟨ret_int (by rw [HB.out]; rfl), rfl⟩


theorem bitN_tz {N k : Nat} (h0 : N ≠ 0) (h : k < tz N) : bitN N k = 0 := by
  obtain ⟨m, hm, _⟩ := tz_spec N h0
  generalize tz N = t at *
  subst hm
  unfold bitN
  obtain ⟨d, rfl⟩ : ∃ d, t = k + (1 + d) := ⟨t - k - 1, by omega⟩
  rw [Nat.pow_add, Nat.mul_left_comm, Nat.mul_div_cancel_left _ (Nat.two_pow_pos _), Nat.pow_add, Nat.pow_one, Nat.mul_left_comm, Nat.mul_mod_right]
theorem bitN_at_tz {N : Nat} (h0 : N ≠ 0) : bitN N (tz N) = 1 := by
  obtain ⟨m, hm, ho⟩ := tz_spec N h0
  generalize tz N = t at *
  subst hm
  unfold bitN
  rw [Nat.mul_div_cancel _ (Nat.two_pow_pos _)]; exact ho

set_option maxRecDepth 100000 in
set_option maxHeartbeats 1000000 in
theorem zeros_any (A : Option Addr) (n cap N : Nat) (w : World) (hn : n ≤ 140737488351232) (h0 : N ≠ 0) (h : NumR w w.heap.size A n N) :
    Calls Try.prog 159 #[.slice A n cap] w fun e w' => e = .returned (.int .i64 (tz N : Int)) ∧ w = w' := by
  have HN := Lib.hid h; clear h
  have hwn := HN.out.words
  have hpos := wN_pos h0
  have t0 : ((wN N : Int) == 0) = false := by simp; omega
  have H0 := Lib.hid h0
  have htz : tz N < 32 * wN N := by have := tz_lt h0; have := wN_len N; omega
  obtain ⟨b, off, rfl, hbB, hc⟩ := HN.out.cells (by omega) (Below.refl _ _)
  have HC := Lib.hid hc; clear hc h0
  go_enter Try.func159, Try.ntmps159
  go_wp2_with (go_at_call 155; refine (words_any _ n cap N _ hn HN.out).mono ?_; rintro e w' ⟨rfl, rfl⟩)
  go_loop [3] (fun v => ∃ j : Nat, j < wN N ∧ N % 4294967296 ^ j = 0 ∧ v = .int .i64 (32 * (j : Int))) (fun v => (32 * (wN N : Int) - intOf v).toNat)
  case atStart => exact ⟨0, hpos, by simp [Nat.mod_one], rfl⟩
  case round =>
    obtain ⟨j, hj, hm, rfl⟩ := hrel
    have HM := Lib.hid hm; clear hm
    have c1 := HC.out j (by omega)
    have hdiv : 32 * (j : Int) / 32 = (j : Int) := by omega
    have hjn : (j : Int) < (n : Int) := by omega
    cases hd : ((dig N j : Int) == 0)
    case true =>
      have HD := Lib.hid hd
      have hm2 : Hid (N % 4294967296 ^ (j + 1) = 0) := Lib.hid (by rw [mod_succ, HM.out]; have := HD.out; simp at this; rw [this]; simp)
      have hj2 : j + 1 < wN N := by
        have h1 : 32 * (j + 1) ≤ tz N := tz_words H0.out (Nat.dvd_of_mod_eq_zero hm2.out)
        omega
      go_wp2
      go_round
      case rel => exact ⟨j + 1, hj2, hm2.out, by go_num⟩
      case measure => simp [intOf]; omega
    case false =>
      have hle : 32 * j ≤ tz N := tz_words H0.out (Nat.dvd_of_mod_eq_zero HM.out)
      go_wp2
      clear c1 hdiv hd
      go_loop [3] (fun v => ∃ k : Nat, k ≤ tz N ∧ v = .int .i64 (k : Int)) (fun v => ((tz N : Int) - intOf v).toNat)
      case atStart => exact ⟨32 * j, hle, by go_num⟩
      case round =>
        obtain ⟨k, hk, rfl⟩ := hrel
        by_cases hlt : k < tz N
        · have hb0 := Lib.hid (bitN_tz H0.out hlt)
          go_wp2_with (go_at_call 162; refine (bit_any _ n cap N k _ hn (by omega) HN.out).mono ?_; rintro e w' ⟨rfl, rfl⟩; rw [hb0.out])
          go_round
          case rel => exact ⟨k + 1, hlt, by go_num⟩
          case measure => simp [intOf]; omega
        · have hke : k = tz N := by omega
          subst hke
          have hb0 := Lib.hid (bitN_at_tz H0.out)
          go_wp2_with (go_at_call 162; refine (bit_any _ n cap N _ _ hn (by omega) HN.out).mono ?_; rintro e w' ⟨rfl, rfl⟩; rw [hb0.out])
          go_ret
          exact ⟨rfl, rfl⟩

end Go.Proofs.Ytamaeggkpdgaiaa
