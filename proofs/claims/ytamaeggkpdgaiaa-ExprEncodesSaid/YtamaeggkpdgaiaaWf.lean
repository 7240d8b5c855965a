/- The walks of the program's reading and widening of binary32. -/
import Derived.Test.YtamaeggkpdgaiaaWe
import Derived.Test.YtamaeggkpdgaiaaFd
namespace Go.Proofs.Ytamaeggkpdgaiaa
open Go.RowKit

set_option maxRecDepth 100000 in
set_option maxHeartbeats 400000 in
theorem isInf_pos (x : Nat) (w : World) :
    Calls Try.prog 88 #[.float .f64 x, .int .i64 1] w fun e w' => e = .returned (.bool (infPosD x)) ∧ w = w' := by
  go_enter Try.func88, Try.ntmps88
  go_wp2
  go_ret
  exact ⟨rfl, rfl⟩

set_option maxRecDepth 100000 in
set_option maxHeartbeats 400000 in
theorem isInf_neg (x : Nat) (w : World) :
    Calls Try.prog 88 #[.float .f64 x, .int .i64 (-1)] w fun e w' => e = .returned (.bool (infNegD x)) ∧ w = w' := by
  go_enter Try.func88, Try.ntmps88
  go_wp2
  go_ret
  exact ⟨rfl, rfl⟩

set_option maxRecDepth 100000 in
set_option maxHeartbeats 400000 in
theorem plain32_any (x : Nat) (w : World) :
    Calls Try.prog 70 #[.float .f32 x] w fun e w' => e = .returned (.float .f32 (plainF .f32 x)) ∧ w = w' := by
  have hz : (FloatKind.f32.format.order x 0 == some .eq) = eqZeroF .f32 x := rfl
  cases he : eqZeroF .f32 x
  all_goals
    have H := Lib.hid he
    rw [he] at hz; clear he
    go_enter Try.func70, Try.ntmps70
    go_wp2
    go_ret
    exact ⟨ret_float (by unfold plainF; rw [H.out]; rfl), rfl⟩

set_option maxRecDepth 100000 in
set_option maxHeartbeats 400000 in
theorem none32_any  (w : World) :
    Calls Try.prog 48 #[] w fun e w' => e = .returned (.agg #[.float .f32 2139095040, .float .f32 4286578688]) ∧ Below w.heap.size w w' := by
  have c1 := fun w : World => run_convert_float_float (P := Try.prog) w 29 33 .f64 .f32 9218868437227405312 2139095040 rfl rfl rfl
  have c2 := fun w : World => run_convert_float_float (P := Try.prog) w 29 33 .f64 .f32 18442240474082181120 4286578688 rfl rfl rfl
  go_enter Try.func48, Try.ntmps48
  go_wp2_with (go_at_call 89; first | ((with_reducible refine (inf_pos _ (by omega) _).mono ?_); rintro e w' ⟨rfl, rfl⟩) | ((with_reducible refine (inf_neg _ (by omega) _).mono ?_); rintro e w' ⟨rfl, rfl⟩))
  all_goals
    refine bodyPost_ret (v := .agg #[.float .f32 2139095040, .float .f32 4286578688]) (by simp [results, Try.results48, go_sem, *]) rfl ⟨rfl, (by repeat (first | exact Below.refl _ _ | (refine Below.alloc ?_ (by first | exact Nat.le_refl _ | (simp; done) | (simp; omega)) _) | refine Below.drew ?_ | refine below_drewN ?_ _ | (refine Below.setCell ?_ (by first | exact Nat.le_refl _ | (simp; done) | (simp; omega)) _) | refine below_then ?_ (by assumption)))⟩

set_option maxRecDepth 100000 in
set_option maxHeartbeats 400000 in
theorem read32_any (x y : Nat) (w : World) :
    Calls Try.prog 47 #[.agg #[.float .f32 x, .float .f32 y]] w fun e w' => e = .returned (.agg #[.float .f32 (readLoS x y), .float .f32 (readHiS x y)]) ∧ Below w.heap.size w w' := by
  have hle : (FloatKind.f32.format.order x y == some .lt || FloatKind.f32.format.order x y == some .eq) = leqF .f32 x y := rfl
  cases h1 : leqF .f32 x y
  case false =>
    rw [h1] at hle
    have R1 : Hid (readLoS x y = 2139095040) := Lib.hid (by unfold readLoS soundS; rw [h1]; rfl)
    have R2 : Hid (readHiS x y = 4286578688) := Lib.hid (by unfold readHiS soundS; rw [h1]; rfl)
    clear h1
    go_enter Try.func47, Try.ntmps47
    go_wp2_with (first | (go_at_call 88; first | ((with_reducible refine (isInf_pos _ _).mono ?_); rintro e w' ⟨rfl, rfl⟩) | ((with_reducible refine (isInf_neg _ _).mono ?_); rintro e w' ⟨rfl, rfl⟩)) | (go_at_call 48; refine (none32_any _).mono ?_; rintro e w1 ⟨rfl, hb⟩; obtain ⟨hc, hf⟩ := bcell hb; (try have hz0 : w.heap.size < w1.heap.size := (by have := hb.size; (try simp at this); omega)); (try have hz1 : w.heap.size + 1 < w1.heap.size := (by have := hb.size; (try simp at this); omega)); (try have hz2 : w.heap.size + 2 < w1.heap.size := (by have := hb.size; (try simp at this); omega))))
    all_goals
      refine bodyPost_ret (v := .agg #[.float .f32 (readLoS x y), .float .f32 (readHiS x y)]) (by simp [results, Try.results47, go_sem, R1.out, R2.out, *]) rfl ⟨rfl, (by repeat (first | exact Below.refl _ _ | (refine Below.alloc ?_ (by first | exact Nat.le_refl _ | (simp; done) | (simp; omega)) _) | refine Below.drew ?_ | refine below_drewN ?_ _ | (refine Below.setCell ?_ (by first | exact Nat.le_refl _ | (simp; done) | (simp; omega)) _) | refine below_then ?_ (by assumption)))⟩
  case true =>
    rw [h1] at hle
    have cv1 : ∀ w : World, (convert 33 29 (.float .f32 x)).run Try.prog w = .ok (.float .f64 (wideF x)) w := fun w => conv_wide w rfl rfl (leqF_some h1).1
    have cv2 : ∀ w : World, (convert 33 29 (.float .f32 y)).run Try.prog w = .ok (.float .f64 (wideF y)) w := fun w => conv_wide w rfl rfl (leqF_some h1).2
    cases h2 : infPosD (wideF x)
    case true =>
      have R1 : Hid (readLoS x y = 2139095040) := Lib.hid (by unfold readLoS soundS; rw [h1, h2]; rfl)
      have R2 : Hid (readHiS x y = 4286578688) := Lib.hid (by unfold readHiS soundS; rw [h1, h2]; rfl)
      have H2 := Lib.hid h2; clear h1 h2
      go_enter Try.func47, Try.ntmps47
      go_wp2_with (first | (go_at_call 88; first | ((with_reducible refine (isInf_pos _ _).mono ?_); rintro e w' ⟨rfl, rfl⟩; (try first | rw [H2.out])) | ((with_reducible refine (isInf_neg _ _).mono ?_); rintro e w' ⟨rfl, rfl⟩; (try first | rw [H2.out]))) | (go_at_call 48; refine (none32_any _).mono ?_; rintro e w1 ⟨rfl, hb⟩; obtain ⟨hc, hf⟩ := bcell hb; (try have hz0 : w.heap.size < w1.heap.size := (by have := hb.size; (try simp at this); omega)); (try have hz1 : w.heap.size + 1 < w1.heap.size := (by have := hb.size; (try simp at this); omega)); (try have hz2 : w.heap.size + 2 < w1.heap.size := (by have := hb.size; (try simp at this); omega))))
      all_goals
        refine bodyPost_ret (v := .agg #[.float .f32 (readLoS x y), .float .f32 (readHiS x y)]) (by simp [results, Try.results47, go_sem, R1.out, R2.out, *]) rfl ⟨rfl, (by repeat (first | exact Below.refl _ _ | (refine Below.alloc ?_ (by first | exact Nat.le_refl _ | (simp; done) | (simp; omega)) _) | refine Below.drew ?_ | refine below_drewN ?_ _ | (refine Below.setCell ?_ (by first | exact Nat.le_refl _ | (simp; done) | (simp; omega)) _) | refine below_then ?_ (by assumption)))⟩
    case false =>
      cases h3 : infNegD (wideF y)
      case true =>
        have R1 : Hid (readLoS x y = 2139095040) := Lib.hid (by unfold readLoS soundS; rw [h1, h2, h3]; rfl)
        have R2 : Hid (readHiS x y = 4286578688) := Lib.hid (by unfold readHiS soundS; rw [h1, h2, h3]; rfl)
        have H2 := Lib.hid h2; have H3 := Lib.hid h3; clear h1 h2 h3
        go_enter Try.func47, Try.ntmps47
        go_wp2_with (first | (go_at_call 88; first | ((with_reducible refine (isInf_pos _ _).mono ?_); rintro e w' ⟨rfl, rfl⟩; (try first | rw [H2.out] | rw [H3.out])) | ((with_reducible refine (isInf_neg _ _).mono ?_); rintro e w' ⟨rfl, rfl⟩; (try first | rw [H2.out] | rw [H3.out]))) | (go_at_call 48; refine (none32_any _).mono ?_; rintro e w1 ⟨rfl, hb⟩; obtain ⟨hc, hf⟩ := bcell hb; (try have hz0 : w.heap.size < w1.heap.size := (by have := hb.size; (try simp at this); omega)); (try have hz1 : w.heap.size + 1 < w1.heap.size := (by have := hb.size; (try simp at this); omega)); (try have hz2 : w.heap.size + 2 < w1.heap.size := (by have := hb.size; (try simp at this); omega))))
        all_goals
          refine bodyPost_ret (v := .agg #[.float .f32 (readLoS x y), .float .f32 (readHiS x y)]) (by simp [results, Try.results47, go_sem, R1.out, R2.out, *]) rfl ⟨rfl, (by repeat (first | exact Below.refl _ _ | (refine Below.alloc ?_ (by first | exact Nat.le_refl _ | (simp; done) | (simp; omega)) _) | refine Below.drew ?_ | refine below_drewN ?_ _ | (refine Below.setCell ?_ (by first | exact Nat.le_refl _ | (simp; done) | (simp; omega)) _) | refine below_then ?_ (by assumption)))⟩
      case false =>
        have R1 : Hid (readLoS x y = plainF .f32 x) := Lib.hid (by unfold readLoS soundS; rw [h1, h2, h3]; rfl)
        have R2 : Hid (readHiS x y = plainF .f32 y) := Lib.hid (by unfold readHiS soundS; rw [h1, h2, h3]; rfl)
        have H2 := Lib.hid h2; have H3 := Lib.hid h3; clear h1 h2 h3
        go_enter Try.func47, Try.ntmps47
        go_wp2_with (first | (go_at_call 88; first | ((with_reducible refine (isInf_pos _ _).mono ?_); rintro e w' ⟨rfl, rfl⟩; (try first | rw [H2.out] | rw [H3.out])) | ((with_reducible refine (isInf_neg _ _).mono ?_); rintro e w' ⟨rfl, rfl⟩; (try first | rw [H2.out] | rw [H3.out]))) | (go_at_call 48; refine (none32_any _).mono ?_; rintro e w1 ⟨rfl, hb⟩; obtain ⟨hc, hf⟩ := bcell hb; (try have hz0 : w.heap.size < w1.heap.size := (by have := hb.size; (try simp at this); omega)); (try have hz1 : w.heap.size + 1 < w1.heap.size := (by have := hb.size; (try simp at this); omega)); (try have hz2 : w.heap.size + 2 < w1.heap.size := (by have := hb.size; (try simp at this); omega))))
        refine region_tail 7 (by kernel_rfl) (by kernel_rfl) ?_
        simp only [List.take_succ_cons, List.take_zero, List.drop_succ_cons, List.drop_zero]
        repeat (refine wpStill_step (fun K hK => ?_); go_simp; first | (refine hK _ ?_; clear hK K) | (refine ⟨_, (plain32_any _ _).mono fun e w' h => ⟨h.1, h.2.symm⟩, hK _ ?_⟩; clear hK K))
        try refine wpStill_nil ?_
        go_wp2
        all_goals
          refine bodyPost_ret (v := .agg #[.float .f32 (readLoS x y), .float .f32 (readHiS x y)]) (by simp [results, Try.results47, go_sem, R1.out, R2.out, *]) rfl ⟨rfl, (by repeat (first | exact Below.refl _ _ | (refine Below.alloc ?_ (by first | exact Nat.le_refl _ | (simp; done) | (simp; omega)) _) | refine Below.drew ?_ | refine below_drewN ?_ _ | (refine Below.setCell ?_ (by first | exact Nat.le_refl _ | (simp; done) | (simp; omega)) _) | refine below_then ?_ (by assumption)))⟩

set_option maxRecDepth 100000 in
set_option maxHeartbeats 400000 in
theorem readS_any (x y : Nat) (w : World) :
    Calls Try.prog 32 #[.agg #[.float .f32 x, .float .f32 y]] w fun e w' => e = .returned (.agg #[.float .f32 (readLoS x y), .float .f32 (readHiS x y)]) ∧ Below w.heap.size w w' := by
  go_enter Try.func32, Try.ntmps32
  go_wp2_with ((go_at_call 47; refine (read32_any _ _ _).mono ?_; rintro e w1 ⟨rfl, hb⟩; obtain ⟨hc, hf⟩ := bcell hb; (try have hz0 : w.heap.size < w1.heap.size := (by have := hb.size; (try simp at this); omega)); (try have hz1 : w.heap.size + 1 < w1.heap.size := (by have := hb.size; (try simp at this); omega)); (try have hz2 : w.heap.size + 2 < w1.heap.size := (by have := hb.size; (try simp at this); omega))))
  all_goals
    refine bodyPost_ret (v := .agg #[.float .f32 (readLoS x y), .float .f32 (readHiS x y)]) (by simp [results, Try.results32, go_sem, *]) rfl ⟨rfl, (by repeat (first | exact Below.refl _ _ | (refine Below.alloc ?_ (by first | exact Nat.le_refl _ | (simp; done) | (simp; omega)) _) | refine Below.drew ?_ | refine below_drewN ?_ _ | (refine Below.setCell ?_ (by first | exact Nat.le_refl _ | (simp; done) | (simp; omega)) _) | refine below_then ?_ (by assumption)))⟩

end Go.Proofs.Ytamaeggkpdgaiaa
