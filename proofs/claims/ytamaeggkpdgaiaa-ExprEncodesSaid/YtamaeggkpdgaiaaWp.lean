/- The walks of the program's and the reference's validity of intervals of binary64. -/
import Derived.Test.YtamaeggkpdgaiaaWo
import Derived.Test.YtamaeggkpdgaiaaWf
import Derived.Test.YtamaeggkpdgaiaaGa
namespace Go.Proofs.Ytamaeggkpdgaiaa
open Go.RowKit

@[go_sem] theorem run_equalIn_float {P : Program} (w : World) (d : Nat) (t : TypeId) (k k' : FloatKind) (a b : Nat) (h : P.underlying t = some (.float k')) : (Op.equalIn (d + 1) t (.float k a) (.float k b)).run P w = .ok (k.format.order a b == some .eq) w := by
  simp [Op.equalIn, run_underlying h]
  rfl
theorem nan_infP : nanD 9218868437227405312 = false := by decide
theorem nan_infN : nanD 18442240474082181120 = false := by decide
theorem kD_infP : kD 9218868437227405312 = 9218868437227405312 := kD_pos (by decide)
theorem kD_infN : kD 18442240474082181120 = -9218868437227405312 := kD_neg (x := 9218868437227405312) (by decide)

theorem lt_infP {x : Nat} (hx : W64 x) (hn : nanD x = false) : (FloatKind.f64.format.order x 9218868437227405312 == some .lt) = decide (x ≠ 9218868437227405312) := by
  rw [order_f64 hn nan_infP, ord_lt, kD_infP]
  have hb := kD_bounds hx hn
  obtain ⟨r, hr, rfl | rfl⟩ := w64_cases hx
  · rw [kD_pos hr] at *; rw [Bool.eq_iff_iff]; (simp <;> omega)
  · rw [kD_neg hr] at *; rw [Bool.eq_iff_iff]; (simp <;> omega)
theorem gt_infN {x : Nat} (hx : W64 x) (hn : nanD x = false) : (FloatKind.f64.format.order x 18442240474082181120 == some .gt) = decide (x ≠ 18442240474082181120) := by
  rw [order_f64 hn nan_infN, ord_gt, kD_infN]
  have hb := kD_bounds hx hn
  obtain ⟨r, hr, rfl | rfl⟩ := w64_cases hx
  · rw [kD_pos hr] at *; rw [Bool.eq_iff_iff]; (simp <;> omega)
  · rw [kD_neg hr] at *; rw [Bool.eq_iff_iff]; (simp <;> omega)
theorem eq_infP {x : Nat} (hx : W64 x) : (FloatKind.f64.format.order x 9218868437227405312 == some .eq) = decide (x = 9218868437227405312) := by
  cases hn : nanD x
  · rw [order_f64 hn nan_infP, ord_eq, kD_infP]
    have hb := kD_bounds hx hn
    obtain ⟨r, hr, rfl | rfl⟩ := w64_cases hx
    · rw [kD_pos hr] at *; rw [Bool.eq_iff_iff]; (simp <;> omega)
    · rw [kD_neg hr] at *; rw [Bool.eq_iff_iff]; (simp <;> omega)
  · rw [order_f64_nan (Or.inl hn)]
    have : x ≠ 9218868437227405312 := by rintro rfl; rw [nan_infP] at hn; cases hn
    rw [decide_eq_false this]; rfl
theorem eq_infN {x : Nat} (hx : W64 x) : (FloatKind.f64.format.order x 18442240474082181120 == some .eq) = decide (x = 18442240474082181120) := by
  cases hn : nanD x
  · rw [order_f64 hn nan_infN, ord_eq, kD_infN]
    have hb := kD_bounds hx hn
    obtain ⟨r, hr, rfl | rfl⟩ := w64_cases hx
    · rw [kD_pos hr] at *; rw [Bool.eq_iff_iff]; (simp <;> omega)
    · rw [kD_neg hr] at *; rw [Bool.eq_iff_iff]; (simp <;> omega)
  · rw [order_f64_nan (Or.inl hn)]
    have : x ≠ 18442240474082181120 := by rintro rfl; rw [nan_infN] at hn; cases hn
    rw [decide_eq_false this]; rfl
theorem eqZero_f64 {x : Nat} (hx : W64 x) : (FloatKind.f64.format.order x 0 == some .eq) = decide (x = 0 ∨ x = 9223372036854775808) := by
  cases hn : nanD x
  · rw [order_f64 hn (by decide), ord_eq, kD_pos (x := 0) (by decide)]
    obtain ⟨r, hr, rfl | rfl⟩ := w64_cases hx
    · rw [kD_pos hr] at *; rw [Bool.eq_iff_iff]; (simp <;> omega)
    · rw [kD_neg hr] at *; rw [Bool.eq_iff_iff]; (simp <;> omega)
  · rw [order_f64_nan (Or.inl hn)]
    have : ¬ (x = 0 ∨ x = 9223372036854775808) := by rintro (rfl | rfl) <;> revert hn <;> decide
    rw [decide_eq_false this]; rfl
theorem leqF_nan {x y : Nat} (h : leqF .f64 x y = true) : nanD x = false ∧ nanD y = false := by
  rw [leqF_f64] at h
  revert h; cases nanD x <;> cases nanD y <;> simp

/-- Is a word that of -0? -/
def minusD (x : Nat) : Bool := decide (x = 9223372036854775808)
/-- Is a pair the empty interval's? -/
def emptyB (x y : Nat) : Bool := decide (x = 9218868437227405312) && decide (y = 18442240474082181120)
def validD (x y : Nat) : Bool := emptyB x y || (soundD x y && !minusD x && !minusD y)

theorem sound_parts {x y : Nat} (hx : W64 x) (hy : W64 y) :
    soundD x y = (leqF .f64 x y && (FloatKind.f64.format.order x 9218868437227405312 == some .lt) && (FloatKind.f64.format.order y 18442240474082181120 == some .gt)) := by
  rw [soundD_eq hx hy]
  cases h : leqF .f64 x y
  · rfl
  · obtain ⟨h1, h2⟩ := leqF_nan h
    rw [lt_infP hx h1, gt_infN hy h2]
theorem minus_parts {x : Nat} (hx : W64 x) : minusD x = ((FloatKind.f64.format.order x 0 == some .eq) && decide ((9223372036854775808 : Int) ≤ (x : Int))) := by
  rw [eqZero_f64 hx]; unfold minusD
  rw [Bool.eq_iff_iff]; (simp <;> omega)

set_option maxRecDepth 100000 in
set_option maxHeartbeats 400000 in
theorem signbit_any (x : Nat) (hx : W64 x) (w : World) :
    Calls Try.prog 132 #[.float .f64 x] w fun e w' => e = .returned (.bool (decide ((9223372036854775808 : Int) ≤ (x : Int)))) ∧ w = w' := by
  have hb : (x : Int) < 18446744073709551616 := by unfold W64 at hx; omega
  go_enter Try.func132, Try.ntmps132
  go_wp2
  go_ret
  exact ⟨ret_bool (by unfold wrap64; exact decide_eq_decide.2 (by omega)), rfl⟩

set_option maxRecDepth 100000 in
set_option maxHeartbeats 400000 in
theorem minusZero_any (x : Nat) (hx : W64 x) (w : World) :
    Calls Try.prog 107 #[.float .f64 x] w fun e w' => e = .returned (.bool (minusD x)) ∧ w = w' := by
  have hm := Lib.hid (minus_parts hx)
  have hb : (x : Int) < 18446744073709551616 := by unfold W64 at hx; omega
  cases h1 : (FloatKind.f64.format.order x 0 == some .eq)
  all_goals
    go_enter Try.func107, Try.ntmps107
    go_wp2_with (go_at_call 132; refine (signbit_any _ (by assumption) _).mono ?_; rintro e w' ⟨rfl, rfl⟩)
    go_ret
    exact ⟨ret_bool (by rw [hm.out, h1]; rfl), rfl⟩

set_option maxRecDepth 100000 in
set_option maxHeartbeats 800000 in
theorem sound_any (x y : Nat) (hx : W64 x) (hy : W64 y) (w : World) :
    Calls Try.prog 106 #[.float .f64 x, .float .f64 y] w fun e w' => e = .returned (.bool (soundD x y)) ∧ w = w' := by
  have hp := Lib.hid (sound_parts hx hy)
  have hle : (FloatKind.f64.format.order x y == some .lt || FloatKind.f64.format.order x y == some .eq) = leqF .f64 x y := rfl
  clear hx hy
  cases h1 : leqF .f64 x y
  case false =>
    rw [h1] at hle
    go_enter Try.func106, Try.ntmps106
    go_wp2_with (go_at_call 89; first | ((with_reducible refine (inf_pos _ (by omega) _).mono ?_); rintro e w' ⟨rfl, rfl⟩) | ((with_reducible refine (inf_neg _ (by omega) _).mono ?_); rintro e w' ⟨rfl, rfl⟩))
    go_ret
    exact ⟨ret_bool (by rw [hp.out, h1]; rfl), rfl⟩
  case true =>
    rw [h1] at hle
    cases h2 : (FloatKind.f64.format.order x 9218868437227405312 == some .lt)
    case false =>
      go_enter Try.func106, Try.ntmps106
      go_wp2_with (go_at_call 89; first | ((with_reducible refine (inf_pos _ (by omega) _).mono ?_); rintro e w' ⟨rfl, rfl⟩) | ((with_reducible refine (inf_neg _ (by omega) _).mono ?_); rintro e w' ⟨rfl, rfl⟩))
      go_ret
      exact ⟨ret_bool (by rw [hp.out, h1, h2]; rfl), rfl⟩
    case true =>
      cases h3 : (FloatKind.f64.format.order y 18442240474082181120 == some .gt)
      all_goals
        go_enter Try.func106, Try.ntmps106
        go_wp2_with (go_at_call 89; first | ((with_reducible refine (inf_pos _ (by omega) _).mono ?_); rintro e w' ⟨rfl, rfl⟩) | ((with_reducible refine (inf_neg _ (by omega) _).mono ?_); rintro e w' ⟨rfl, rfl⟩))
        go_ret
        exact ⟨ret_bool (by rw [hp.out, h1, h2, h3]; rfl), rfl⟩

set_option maxRecDepth 100000 in
set_option maxHeartbeats 400000 in
theorem empty_any (w : World) :
    Calls Try.prog 105 #[] w fun e w' => e = .returned (.agg #[.float .f64 9218868437227405312, .float .f64 18442240474082181120]) ∧ Below w.heap.size w w' := by
  go_enter Try.func105, Try.ntmps105
  go_wp2_with (go_at_call 89; first | ((with_reducible refine (inf_pos _ (by omega) _).mono ?_); rintro e w' ⟨rfl, rfl⟩) | ((with_reducible refine (inf_neg _ (by omega) _).mono ?_); rintro e w' ⟨rfl, rfl⟩))
  all_goals
    refine bodyPost_ret (v := .agg #[.float .f64 9218868437227405312, .float .f64 18442240474082181120]) (by simp [results, Try.results105, go_sem]) rfl ⟨rfl, (by repeat (first | exact Below.refl _ _ | (refine Below.alloc ?_ (by first | exact Nat.le_refl _ | omega | (simp; done) | (simp; omega)) _) | refine Below.drew ?_ | refine below_drewN ?_ _ | (refine Below.setCell ?_ (by first | exact Nat.le_refl _ | omega | (simp; done) | (simp; omega)) _) | refine below_then ?_ (by assumption)))⟩

set_option maxRecDepth 100000 in
set_option maxHeartbeats 800000 in
theorem validI_any (x y : Nat) (hx : W64 x) (hy : W64 y) (w : World) :
    Calls Try.prog 62 #[.agg #[.float .f64 x, .float .f64 y]] w fun e w' => e = .returned (.bool (validD x y)) ∧ Below w.heap.size w w' := by
  have he1 := eq_infP hx
  have he2 := eq_infN hy
  cases h1 : decide (x = 9218868437227405312)
  case false =>
    rw [h1] at he1; (try rw [he3] at he1)
    cases h3 : soundD x y
    all_goals cases h4 : minusD x
    all_goals cases h5 : minusD y
    all_goals
      have H3 := Lib.hid h3; have H4 := Lib.hid h4; have H5 := Lib.hid h5; clear h3 h4 h5
      go_enter Try.func62, Try.ntmps62
      go_wp2
      refine region_quiet (by kernel_rfl) (by kernel_rfl) ?_
      repeat (refine wpQuiet_step (fun K hK => ?_); go_simp; first | (refine hK _ ?_; clear hK K) | (apply Exists.intro; refine ⟨fun _ => ?_, hK _ ?_⟩; ((with_reducible exact qcall (empty_any _))); clear hK K))
      refine wpQuiet_nil ?_
      intro w1 hb; obtain ⟨hc, hf⟩ := bcell hb; (try have hz0 : w.heap.size < w1.heap.size := (by have := hb.size; (try simp at this); omega)); (try have hz1 : w.heap.size + 1 < w1.heap.size := (by have := hb.size; (try simp at this); omega)); (try have hz2 : w.heap.size + 2 < w1.heap.size := (by have := hb.size; (try simp at this); omega)); (try have hs0 : w.heap.size ≤ w1.heap.size := (by have := hb.size; (try simp at this); omega))
      go_wp2_with (first | (go_at_call 106; refine (sound_any _ _ (by assumption) (by assumption) _).mono ?_; rintro e w' ⟨rfl, rfl⟩; (try first | rw [H3.out])) | (go_at_call 107; refine (minusZero_any _ (by assumption) _).mono ?_; rintro e w' ⟨rfl, rfl⟩; (try first | rw [H4.out] | rw [H5.out])))
      go_ret
      all_goals exact ⟨ret_bool (by unfold validD emptyB; rw [h1, H3.out, H4.out, H5.out]; rfl), (by repeat (first | exact Below.refl _ _ | (refine Below.alloc ?_ (by first | exact Nat.le_refl _ | omega | (simp; done) | (simp; omega)) _) | refine Below.drew ?_ | refine below_drewN ?_ _ | (refine Below.setCell ?_ (by first | exact Nat.le_refl _ | omega | (simp; done) | (simp; omega)) _) | refine below_then ?_ (by assumption)))⟩
  case true =>
    rw [h1] at he1
    cases h2 : decide (y = 18442240474082181120)
    case false =>
      rw [h2] at he2
      cases h3 : soundD x y
      all_goals cases h4 : minusD x
      all_goals cases h5 : minusD y
      all_goals
        have H3 := Lib.hid h3; have H4 := Lib.hid h4; have H5 := Lib.hid h5; clear h3 h4 h5
        go_enter Try.func62, Try.ntmps62
        go_wp2
        refine region_quiet (by kernel_rfl) (by kernel_rfl) ?_
        repeat (refine wpQuiet_step (fun K hK => ?_); go_simp; first | (refine hK _ ?_; clear hK K) | (apply Exists.intro; refine ⟨fun _ => ?_, hK _ ?_⟩; ((with_reducible exact qcall (empty_any _))); clear hK K))
        refine wpQuiet_nil ?_
        intro w1 hb; obtain ⟨hc, hf⟩ := bcell hb; (try have hz0 : w.heap.size < w1.heap.size := (by have := hb.size; (try simp at this); omega)); (try have hz1 : w.heap.size + 1 < w1.heap.size := (by have := hb.size; (try simp at this); omega)); (try have hz2 : w.heap.size + 2 < w1.heap.size := (by have := hb.size; (try simp at this); omega)); (try have hs0 : w.heap.size ≤ w1.heap.size := (by have := hb.size; (try simp at this); omega))
        go_wp2_with (first | (go_at_call 106; refine (sound_any _ _ (by assumption) (by assumption) _).mono ?_; rintro e w' ⟨rfl, rfl⟩; (try first | rw [H3.out])) | (go_at_call 107; refine (minusZero_any _ (by assumption) _).mono ?_; rintro e w' ⟨rfl, rfl⟩; (try first | rw [H4.out] | rw [H5.out])))
        go_ret
        all_goals exact ⟨ret_bool (by unfold validD emptyB; rw [h1, h2, H3.out, H4.out, H5.out]; rfl), (by repeat (first | exact Below.refl _ _ | (refine Below.alloc ?_ (by first | exact Nat.le_refl _ | omega | (simp; done) | (simp; omega)) _) | refine Below.drew ?_ | refine below_drewN ?_ _ | (refine Below.setCell ?_ (by first | exact Nat.le_refl _ | omega | (simp; done) | (simp; omega)) _) | refine below_then ?_ (by assumption)))⟩
    case true =>
      rw [h2] at he2
      go_enter Try.func62, Try.ntmps62
      go_wp2
      refine region_quiet (by kernel_rfl) (by kernel_rfl) ?_
      repeat (refine wpQuiet_step (fun K hK => ?_); go_simp; first | (refine hK _ ?_; clear hK K) | (apply Exists.intro; refine ⟨fun _ => ?_, hK _ ?_⟩; ((with_reducible exact qcall (empty_any _))); clear hK K))
      refine wpQuiet_nil ?_
      intro w1 hb; obtain ⟨hc, hf⟩ := bcell hb; (try have hz0 : w.heap.size < w1.heap.size := (by have := hb.size; (try simp at this); omega)); (try have hz1 : w.heap.size + 1 < w1.heap.size := (by have := hb.size; (try simp at this); omega)); (try have hz2 : w.heap.size + 2 < w1.heap.size := (by have := hb.size; (try simp at this); omega)); (try have hs0 : w.heap.size ≤ w1.heap.size := (by have := hb.size; (try simp at this); omega))
      go_wp2_with (first | (go_at_call 106; refine (sound_any _ _ (by assumption) (by assumption) _).mono ?_; rintro e w' ⟨rfl, rfl⟩; (try first | rw [H3.out])) | (go_at_call 107; refine (minusZero_any _ (by assumption) _).mono ?_; rintro e w' ⟨rfl, rfl⟩; (try first | rw [H4.out] | rw [H5.out])))
      go_ret
      all_goals exact ⟨ret_bool (by unfold validD emptyB; rw [h1, h2]; rfl), (by repeat (first | exact Below.refl _ _ | (refine Below.alloc ?_ (by first | exact Nat.le_refl _ | omega | (simp; done) | (simp; omega)) _) | refine Below.drew ?_ | refine below_drewN ?_ _ | (refine Below.setCell ?_ (by first | exact Nat.le_refl _ | omega | (simp; done) | (simp; omega)) _) | refine below_then ?_ (by assumption)))⟩

set_option maxRecDepth 100000 in
set_option maxHeartbeats 800000 in
theorem validD_any (x y : Nat) (hx : W64 x) (hy : W64 y) (w : World) :
    Calls Try.prog 65 #[.agg #[.int .u64 (x : Int), .int .u64 (y : Int)]] w fun e w' => e = .returned (.bool (validD x y)) ∧ Below w.heap.size w w' := by
  have he1 : ((x : Int) == 9218868437227405312) = decide (x = 9218868437227405312) := by rw [Bool.eq_iff_iff]; (try unfold minusD); (simp <;> omega)
  have he2 : ((y : Int) == 18442240474082181120) = decide (y = 18442240474082181120) := by rw [Bool.eq_iff_iff]; (try unfold minusD); (simp <;> omega)
  have he4 : ((x : Int) != 9223372036854775808) = !minusD x := by rw [Bool.eq_iff_iff]; (try unfold minusD); (simp <;> omega)
  have he5 : ((y : Int) != 9223372036854775808) = !minusD y := by rw [Bool.eq_iff_iff]; (try unfold minusD); (simp <;> omega)
  cases h1 : decide (x = 9218868437227405312)
  case false =>
    rw [h1] at he1; (try rw [he3] at he1)
    cases h3 : soundD x y
    all_goals cases h4 : minusD x
    all_goals cases h5 : minusD y
    all_goals
      have H3 := Lib.hid h3; have H4 := Lib.hid h4; have H5 := Lib.hid h5; clear h3 h4 h5
      go_enter Try.func65, Try.ntmps65
      go_wp2
      refine region_quiet (by kernel_rfl) (by kernel_rfl) ?_
      repeat (refine wpQuiet_step (fun K hK => ?_); go_simp; first | (refine hK _ ?_; clear hK K) | (apply Exists.intro; refine ⟨fun _ => ?_, hK _ ?_⟩; ((with_reducible exact qcall (emptyD_any _))); clear hK K))
      refine wpQuiet_nil ?_
      intro w1 hb; obtain ⟨hc, hf⟩ := bcell hb; (try have hz0 : w.heap.size < w1.heap.size := (by have := hb.size; (try simp at this); omega)); (try have hz1 : w.heap.size + 1 < w1.heap.size := (by have := hb.size; (try simp at this); omega)); (try have hz2 : w.heap.size + 2 < w1.heap.size := (by have := hb.size; (try simp at this); omega)); (try have hs0 : w.heap.size ≤ w1.heap.size := (by have := hb.size; (try simp at this); omega))
      (try rw [H4.out] at he4); (try rw [H5.out] at he5); go_wp2_with (go_at_call 85; refine (soundD_any _ _ (by assumption) (by assumption) _).mono ?_; rintro e w1 ⟨rfl, hb⟩; obtain ⟨hc, hf⟩ := bcell hb; (try have hz0 : w.heap.size < w1.heap.size := (by have := hb.size; (try simp at this); omega)); (try have hz1 : w.heap.size + 1 < w1.heap.size := (by have := hb.size; (try simp at this); omega)); (try have hz2 : w.heap.size + 2 < w1.heap.size := (by have := hb.size; (try simp at this); omega)); (try have hs0 : w.heap.size ≤ w1.heap.size := (by have := hb.size; (try simp at this); omega)); (try first | rw [H3.out]))
      go_ret
      all_goals exact ⟨ret_bool (by unfold validD emptyB; rw [h1, H3.out, H4.out, H5.out]; rfl), (by repeat (first | exact Below.refl _ _ | (refine Below.alloc ?_ (by first | exact Nat.le_refl _ | omega | (simp; done) | (simp; omega)) _) | refine Below.drew ?_ | refine below_drewN ?_ _ | (refine Below.setCell ?_ (by first | exact Nat.le_refl _ | omega | (simp; done) | (simp; omega)) _) | refine below_then ?_ (by assumption)))⟩
  case true =>
    rw [h1] at he1
    cases h2 : decide (y = 18442240474082181120)
    case false =>
      rw [h2] at he2
      cases h3 : soundD x y
      all_goals cases h4 : minusD x
      all_goals cases h5 : minusD y
      all_goals
        have H3 := Lib.hid h3; have H4 := Lib.hid h4; have H5 := Lib.hid h5; clear h3 h4 h5
        go_enter Try.func65, Try.ntmps65
        go_wp2
        refine region_quiet (by kernel_rfl) (by kernel_rfl) ?_
        repeat (refine wpQuiet_step (fun K hK => ?_); go_simp; first | (refine hK _ ?_; clear hK K) | (apply Exists.intro; refine ⟨fun _ => ?_, hK _ ?_⟩; ((with_reducible exact qcall (emptyD_any _))); clear hK K))
        refine wpQuiet_nil ?_
        intro w1 hb; obtain ⟨hc, hf⟩ := bcell hb; (try have hz0 : w.heap.size < w1.heap.size := (by have := hb.size; (try simp at this); omega)); (try have hz1 : w.heap.size + 1 < w1.heap.size := (by have := hb.size; (try simp at this); omega)); (try have hz2 : w.heap.size + 2 < w1.heap.size := (by have := hb.size; (try simp at this); omega)); (try have hs0 : w.heap.size ≤ w1.heap.size := (by have := hb.size; (try simp at this); omega))
        (try rw [H4.out] at he4); (try rw [H5.out] at he5); go_wp2_with (go_at_call 85; refine (soundD_any _ _ (by assumption) (by assumption) _).mono ?_; rintro e w1 ⟨rfl, hb⟩; obtain ⟨hc, hf⟩ := bcell hb; (try have hz0 : w.heap.size < w1.heap.size := (by have := hb.size; (try simp at this); omega)); (try have hz1 : w.heap.size + 1 < w1.heap.size := (by have := hb.size; (try simp at this); omega)); (try have hz2 : w.heap.size + 2 < w1.heap.size := (by have := hb.size; (try simp at this); omega)); (try have hs0 : w.heap.size ≤ w1.heap.size := (by have := hb.size; (try simp at this); omega)); (try first | rw [H3.out]))
        go_ret
        all_goals exact ⟨ret_bool (by unfold validD emptyB; rw [h1, h2, H3.out, H4.out, H5.out]; rfl), (by repeat (first | exact Below.refl _ _ | (refine Below.alloc ?_ (by first | exact Nat.le_refl _ | omega | (simp; done) | (simp; omega)) _) | refine Below.drew ?_ | refine below_drewN ?_ _ | (refine Below.setCell ?_ (by first | exact Nat.le_refl _ | omega | (simp; done) | (simp; omega)) _) | refine below_then ?_ (by assumption)))⟩
    case true =>
      rw [h2] at he2
      go_enter Try.func65, Try.ntmps65
      go_wp2
      refine region_quiet (by kernel_rfl) (by kernel_rfl) ?_
      repeat (refine wpQuiet_step (fun K hK => ?_); go_simp; first | (refine hK _ ?_; clear hK K) | (apply Exists.intro; refine ⟨fun _ => ?_, hK _ ?_⟩; ((with_reducible exact qcall (emptyD_any _))); clear hK K))
      refine wpQuiet_nil ?_
      intro w1 hb; obtain ⟨hc, hf⟩ := bcell hb; (try have hz0 : w.heap.size < w1.heap.size := (by have := hb.size; (try simp at this); omega)); (try have hz1 : w.heap.size + 1 < w1.heap.size := (by have := hb.size; (try simp at this); omega)); (try have hz2 : w.heap.size + 2 < w1.heap.size := (by have := hb.size; (try simp at this); omega)); (try have hs0 : w.heap.size ≤ w1.heap.size := (by have := hb.size; (try simp at this); omega))
      (try rw [H4.out] at he4); (try rw [H5.out] at he5); go_wp2_with (go_at_call 85; refine (soundD_any _ _ (by assumption) (by assumption) _).mono ?_; rintro e w1 ⟨rfl, hb⟩; obtain ⟨hc, hf⟩ := bcell hb; (try have hz0 : w.heap.size < w1.heap.size := (by have := hb.size; (try simp at this); omega)); (try have hz1 : w.heap.size + 1 < w1.heap.size := (by have := hb.size; (try simp at this); omega)); (try have hz2 : w.heap.size + 2 < w1.heap.size := (by have := hb.size; (try simp at this); omega)); (try have hs0 : w.heap.size ≤ w1.heap.size := (by have := hb.size; (try simp at this); omega)); (try first | rw [H3.out]))
      go_ret
      all_goals exact ⟨ret_bool (by unfold validD emptyB; rw [h1, h2]; rfl), (by repeat (first | exact Below.refl _ _ | (refine Below.alloc ?_ (by first | exact Nat.le_refl _ | omega | (simp; done) | (simp; omega)) _) | refine Below.drew ?_ | refine below_drewN ?_ _ | (refine Below.setCell ?_ (by first | exact Nat.le_refl _ | omega | (simp; done) | (simp; omega)) _) | refine below_then ?_ (by assumption)))⟩

end Go.Proofs.Ytamaeggkpdgaiaa
