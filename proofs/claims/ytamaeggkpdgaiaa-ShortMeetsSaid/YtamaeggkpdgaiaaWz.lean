/- The walks of the program's reading of pairs of other types: binary64, and types of their own. -/
import Derived.Test.YtamaeggkpdgaiaaWg
namespace Go.Proofs.Ytamaeggkpdgaiaa
open Go.RowKit

/-- A pair of binary64 as the program reads it. -/
def soundT (lo hi : Nat) : Bool := leqF .f64 lo hi && !infPosD lo && !infNegD hi
def readLoT (lo hi : Nat) : Nat := if soundT lo hi then plainF .f64 lo else 9218868437227405312
def readHiT (lo hi : Nat) : Nat := if soundT lo hi then plainF .f64 hi else 18442240474082181120

set_option maxRecDepth 100000 in
set_option maxHeartbeats 400000 in
theorem plainNear_any (x : Nat) (w : World) :
    Calls Try.prog 91 #[.float .f32 x] w fun e w' => e = .returned (.float .f32 (plainF .f32 x)) ∧ w = w' := by
  have hz : (FloatKind.f32.format.order x 0 == some .eq) = eqZeroF .f32 x := rfl
  cases he : eqZeroF .f32 x
  all_goals
    have H := Lib.hid he
    rw [he] at hz; clear he
    go_enter Try.func91, Try.ntmps91
    go_wp2
    go_ret
    exact ⟨ret_float (by unfold plainF; rw [H.out]; rfl), rfl⟩

set_option maxRecDepth 100000 in
set_option maxHeartbeats 400000 in
theorem noneNear_any  (w : World) :
    Calls Try.prog 51 #[] w fun e w' => e = .returned (.agg #[.float .f32 2139095040, .float .f32 4286578688]) ∧ Below w.heap.size w w' := by
  have c1 := fun w : World => run_convert_float_float (P := Try.prog) w 29 43 .f64 .f32 9218868437227405312 2139095040 rfl rfl rfl
  have c2 := fun w : World => run_convert_float_float (P := Try.prog) w 29 43 .f64 .f32 18442240474082181120 4286578688 rfl rfl rfl
  go_enter Try.func51, Try.ntmps51
  go_wp2_with (go_at_call 89; first | ((with_reducible refine (inf_pos _ (by omega) _).mono ?_); rintro e w' ⟨rfl, rfl⟩) | ((with_reducible refine (inf_neg _ (by omega) _).mono ?_); rintro e w' ⟨rfl, rfl⟩))
  all_goals
    refine bodyPost_ret (v := .agg #[.float .f32 2139095040, .float .f32 4286578688]) (by simp [results, Try.results51, go_sem, *]) rfl ⟨rfl, (by repeat (first | exact Below.refl _ _ | (refine Below.alloc ?_ (by first | exact Nat.le_refl _ | (simp; done) | (simp; omega)) _) | refine Below.drew ?_ | refine below_drewN ?_ _ | (refine Below.setCell ?_ (by first | exact Nat.le_refl _ | (simp; done) | (simp; omega)) _) | refine below_then ?_ (by assumption)))⟩

set_option maxRecDepth 100000 in
set_option maxHeartbeats 400000 in
theorem readNear_any (x y : Nat) (w : World) :
    Calls Try.prog 50 #[.agg #[.float .f32 x, .float .f32 y]] w fun e w' => e = .returned (.agg #[.float .f32 (readLoS x y), .float .f32 (readHiS x y)]) ∧ Below w.heap.size w w' := by
  have hle : (FloatKind.f32.format.order x y == some .lt || FloatKind.f32.format.order x y == some .eq) = leqF .f32 x y := rfl
  cases h1 : leqF .f32 x y
  case false =>
    rw [h1] at hle
    have R1 : Hid (readLoS x y = 2139095040) := Lib.hid (by unfold readLoS soundS; rw [h1]; rfl)
    have R2 : Hid (readHiS x y = 4286578688) := Lib.hid (by unfold readHiS soundS; rw [h1]; rfl)
    clear h1
    go_enter Try.func50, Try.ntmps50
    go_wp2_with (first | (go_at_call 88; first | ((with_reducible refine (isInf_pos _ _).mono ?_); rintro e w' ⟨rfl, rfl⟩) | ((with_reducible refine (isInf_neg _ _).mono ?_); rintro e w' ⟨rfl, rfl⟩)) | (go_at_call 51; refine (noneNear_any _).mono ?_; rintro e w1 ⟨rfl, hb⟩; obtain ⟨hc, hf⟩ := bcell hb; (try have hz0 : w.heap.size < w1.heap.size := (by have := hb.size; (try simp at this); omega)); (try have hz1 : w.heap.size + 1 < w1.heap.size := (by have := hb.size; (try simp at this); omega)); (try have hz2 : w.heap.size + 2 < w1.heap.size := (by have := hb.size; (try simp at this); omega))))
    all_goals
      refine bodyPost_ret (v := .agg #[.float .f32 (readLoS x y), .float .f32 (readHiS x y)]) (by simp [results, Try.results50, go_sem, R1.out, R2.out, *]) rfl ⟨rfl, (by repeat (first | exact Below.refl _ _ | (refine Below.alloc ?_ (by first | exact Nat.le_refl _ | (simp; done) | (simp; omega)) _) | refine Below.drew ?_ | refine below_drewN ?_ _ | (refine Below.setCell ?_ (by first | exact Nat.le_refl _ | (simp; done) | (simp; omega)) _) | refine below_then ?_ (by assumption)))⟩
  case true =>
    rw [h1] at hle
    have cv1 : ∀ w : World, (convert 43 29 (.float .f32 x)).run Try.prog w = .ok (.float .f64 (wideF x)) w := fun w => conv_wide w rfl rfl (leqF_some h1).1
    have cv2 : ∀ w : World, (convert 43 29 (.float .f32 y)).run Try.prog w = .ok (.float .f64 (wideF y)) w := fun w => conv_wide w rfl rfl (leqF_some h1).2
    cases h2 : infPosD (wideF x)
    case true =>
      have R1 : Hid (readLoS x y = 2139095040) := Lib.hid (by unfold readLoS soundS; rw [h1, h2]; rfl)
      have R2 : Hid (readHiS x y = 4286578688) := Lib.hid (by unfold readHiS soundS; rw [h1, h2]; rfl)
      have H2 := Lib.hid h2; clear h1 h2
      go_enter Try.func50, Try.ntmps50
      go_wp2_with (first | (go_at_call 88; first | ((with_reducible refine (isInf_pos _ _).mono ?_); rintro e w' ⟨rfl, rfl⟩; (try first | rw [H2.out])) | ((with_reducible refine (isInf_neg _ _).mono ?_); rintro e w' ⟨rfl, rfl⟩; (try first | rw [H2.out]))) | (go_at_call 51; refine (noneNear_any _).mono ?_; rintro e w1 ⟨rfl, hb⟩; obtain ⟨hc, hf⟩ := bcell hb; (try have hz0 : w.heap.size < w1.heap.size := (by have := hb.size; (try simp at this); omega)); (try have hz1 : w.heap.size + 1 < w1.heap.size := (by have := hb.size; (try simp at this); omega)); (try have hz2 : w.heap.size + 2 < w1.heap.size := (by have := hb.size; (try simp at this); omega))))
      all_goals
        refine bodyPost_ret (v := .agg #[.float .f32 (readLoS x y), .float .f32 (readHiS x y)]) (by simp [results, Try.results50, go_sem, R1.out, R2.out, *]) rfl ⟨rfl, (by repeat (first | exact Below.refl _ _ | (refine Below.alloc ?_ (by first | exact Nat.le_refl _ | (simp; done) | (simp; omega)) _) | refine Below.drew ?_ | refine below_drewN ?_ _ | (refine Below.setCell ?_ (by first | exact Nat.le_refl _ | (simp; done) | (simp; omega)) _) | refine below_then ?_ (by assumption)))⟩
    case false =>
      cases h3 : infNegD (wideF y)
      case true =>
        have R1 : Hid (readLoS x y = 2139095040) := Lib.hid (by unfold readLoS soundS; rw [h1, h2, h3]; rfl)
        have R2 : Hid (readHiS x y = 4286578688) := Lib.hid (by unfold readHiS soundS; rw [h1, h2, h3]; rfl)
        have H2 := Lib.hid h2; have H3 := Lib.hid h3; clear h1 h2 h3
        go_enter Try.func50, Try.ntmps50
        go_wp2_with (first | (go_at_call 88; first | ((with_reducible refine (isInf_pos _ _).mono ?_); rintro e w' ⟨rfl, rfl⟩; (try first | rw [H2.out] | rw [H3.out])) | ((with_reducible refine (isInf_neg _ _).mono ?_); rintro e w' ⟨rfl, rfl⟩; (try first | rw [H2.out] | rw [H3.out]))) | (go_at_call 51; refine (noneNear_any _).mono ?_; rintro e w1 ⟨rfl, hb⟩; obtain ⟨hc, hf⟩ := bcell hb; (try have hz0 : w.heap.size < w1.heap.size := (by have := hb.size; (try simp at this); omega)); (try have hz1 : w.heap.size + 1 < w1.heap.size := (by have := hb.size; (try simp at this); omega)); (try have hz2 : w.heap.size + 2 < w1.heap.size := (by have := hb.size; (try simp at this); omega))))
        all_goals
          refine bodyPost_ret (v := .agg #[.float .f32 (readLoS x y), .float .f32 (readHiS x y)]) (by simp [results, Try.results50, go_sem, R1.out, R2.out, *]) rfl ⟨rfl, (by repeat (first | exact Below.refl _ _ | (refine Below.alloc ?_ (by first | exact Nat.le_refl _ | (simp; done) | (simp; omega)) _) | refine Below.drew ?_ | refine below_drewN ?_ _ | (refine Below.setCell ?_ (by first | exact Nat.le_refl _ | (simp; done) | (simp; omega)) _) | refine below_then ?_ (by assumption)))⟩
      case false =>
        have R1 : Hid (readLoS x y = plainF .f32 x) := Lib.hid (by unfold readLoS soundS; rw [h1, h2, h3]; rfl)
        have R2 : Hid (readHiS x y = plainF .f32 y) := Lib.hid (by unfold readHiS soundS; rw [h1, h2, h3]; rfl)
        have H2 := Lib.hid h2; have H3 := Lib.hid h3; clear h1 h2 h3
        go_enter Try.func50, Try.ntmps50
        go_wp2_with (first | (go_at_call 88; first | ((with_reducible refine (isInf_pos _ _).mono ?_); rintro e w' ⟨rfl, rfl⟩; (try first | rw [H2.out] | rw [H3.out])) | ((with_reducible refine (isInf_neg _ _).mono ?_); rintro e w' ⟨rfl, rfl⟩; (try first | rw [H2.out] | rw [H3.out]))) | (go_at_call 51; refine (noneNear_any _).mono ?_; rintro e w1 ⟨rfl, hb⟩; obtain ⟨hc, hf⟩ := bcell hb; (try have hz0 : w.heap.size < w1.heap.size := (by have := hb.size; (try simp at this); omega)); (try have hz1 : w.heap.size + 1 < w1.heap.size := (by have := hb.size; (try simp at this); omega)); (try have hz2 : w.heap.size + 2 < w1.heap.size := (by have := hb.size; (try simp at this); omega))))
        refine region_tail 7 (by kernel_rfl) (by kernel_rfl) ?_
        simp only [List.take_succ_cons, List.take_zero, List.drop_succ_cons, List.drop_zero]
        repeat (refine wpStill_step (fun K hK => ?_); go_simp; first | (refine hK _ ?_; clear hK K) | (refine ⟨_, (plainNear_any _ _).mono fun e w' h => ⟨h.1, h.2.symm⟩, hK _ ?_⟩; clear hK K))
        try refine wpStill_nil ?_
        go_wp2
        all_goals
          refine bodyPost_ret (v := .agg #[.float .f32 (readLoS x y), .float .f32 (readHiS x y)]) (by simp [results, Try.results50, go_sem, R1.out, R2.out, *]) rfl ⟨rfl, (by repeat (first | exact Below.refl _ _ | (refine Below.alloc ?_ (by first | exact Nat.le_refl _ | (simp; done) | (simp; omega)) _) | refine Below.drew ?_ | refine below_drewN ?_ _ | (refine Below.setCell ?_ (by first | exact Nat.le_refl _ | (simp; done) | (simp; omega)) _) | refine below_then ?_ (by assumption)))⟩

set_option maxRecDepth 100000 in
set_option maxHeartbeats 400000 in
theorem plain64_any (x : Nat) (w : World) :
    Calls Try.prog 92 #[.float .f64 x] w fun e w' => e = .returned (.float .f64 (plainF .f64 x)) ∧ w = w' := by
  have hz : (FloatKind.f64.format.order x 0 == some .eq) = eqZeroF .f64 x := rfl
  cases he : eqZeroF .f64 x
  all_goals
    have H := Lib.hid he
    rw [he] at hz; clear he
    go_enter Try.func92, Try.ntmps92
    go_wp2
    go_ret
    exact ⟨ret_float (by unfold plainF; rw [H.out]; rfl), rfl⟩

set_option maxRecDepth 100000 in
set_option maxHeartbeats 400000 in
theorem none64_any  (w : World) :
    Calls Try.prog 54 #[] w fun e w' => e = .returned (.agg #[.float .f64 9218868437227405312, .float .f64 18442240474082181120]) ∧ Below w.heap.size w w' := by
  go_enter Try.func54, Try.ntmps54
  go_wp2_with (go_at_call 89; first | ((with_reducible refine (inf_pos _ (by omega) _).mono ?_); rintro e w' ⟨rfl, rfl⟩) | ((with_reducible refine (inf_neg _ (by omega) _).mono ?_); rintro e w' ⟨rfl, rfl⟩))
  all_goals
    refine bodyPost_ret (v := .agg #[.float .f64 9218868437227405312, .float .f64 18442240474082181120]) (by simp [results, Try.results54, go_sem, *]) rfl ⟨rfl, (by repeat (first | exact Below.refl _ _ | (refine Below.alloc ?_ (by first | exact Nat.le_refl _ | (simp; done) | (simp; omega)) _) | refine Below.drew ?_ | refine below_drewN ?_ _ | (refine Below.setCell ?_ (by first | exact Nat.le_refl _ | (simp; done) | (simp; omega)) _) | refine below_then ?_ (by assumption)))⟩

set_option maxRecDepth 100000 in
set_option maxHeartbeats 400000 in
theorem read64_any (x y : Nat) (w : World) :
    Calls Try.prog 53 #[.agg #[.float .f64 x, .float .f64 y]] w fun e w' => e = .returned (.agg #[.float .f64 (readLoT x y), .float .f64 (readHiT x y)]) ∧ Below w.heap.size w w' := by
  have hle : (FloatKind.f64.format.order x y == some .lt || FloatKind.f64.format.order x y == some .eq) = leqF .f64 x y := rfl
  cases h1 : leqF .f64 x y
  case false =>
    rw [h1] at hle
    have R1 : Hid (readLoT x y = 9218868437227405312) := Lib.hid (by unfold readLoT soundT; rw [h1]; rfl)
    have R2 : Hid (readHiT x y = 18442240474082181120) := Lib.hid (by unfold readHiT soundT; rw [h1]; rfl)
    clear h1
    go_enter Try.func53, Try.ntmps53
    go_wp2_with (first | (go_at_call 88; first | ((with_reducible refine (isInf_pos _ _).mono ?_); rintro e w' ⟨rfl, rfl⟩) | ((with_reducible refine (isInf_neg _ _).mono ?_); rintro e w' ⟨rfl, rfl⟩)) | (go_at_call 54; refine (none64_any _).mono ?_; rintro e w1 ⟨rfl, hb⟩; obtain ⟨hc, hf⟩ := bcell hb; (try have hz0 : w.heap.size < w1.heap.size := (by have := hb.size; (try simp at this); omega)); (try have hz1 : w.heap.size + 1 < w1.heap.size := (by have := hb.size; (try simp at this); omega)); (try have hz2 : w.heap.size + 2 < w1.heap.size := (by have := hb.size; (try simp at this); omega))))
    all_goals
      refine bodyPost_ret (v := .agg #[.float .f64 (readLoT x y), .float .f64 (readHiT x y)]) (by simp [results, Try.results53, go_sem, R1.out, R2.out, *]) rfl ⟨rfl, (by repeat (first | exact Below.refl _ _ | (refine Below.alloc ?_ (by first | exact Nat.le_refl _ | (simp; done) | (simp; omega)) _) | refine Below.drew ?_ | refine below_drewN ?_ _ | (refine Below.setCell ?_ (by first | exact Nat.le_refl _ | (simp; done) | (simp; omega)) _) | refine below_then ?_ (by assumption)))⟩
  case true =>
    rw [h1] at hle
    cases h2 : infPosD x
    case true =>
      have R1 : Hid (readLoT x y = 9218868437227405312) := Lib.hid (by unfold readLoT soundT; rw [h1, h2]; rfl)
      have R2 : Hid (readHiT x y = 18442240474082181120) := Lib.hid (by unfold readHiT soundT; rw [h1, h2]; rfl)
      have H2 := Lib.hid h2; clear h1 h2
      go_enter Try.func53, Try.ntmps53
      go_wp2_with (first | (go_at_call 88; first | ((with_reducible refine (isInf_pos _ _).mono ?_); rintro e w' ⟨rfl, rfl⟩; (try first | rw [H2.out])) | ((with_reducible refine (isInf_neg _ _).mono ?_); rintro e w' ⟨rfl, rfl⟩; (try first | rw [H2.out]))) | (go_at_call 54; refine (none64_any _).mono ?_; rintro e w1 ⟨rfl, hb⟩; obtain ⟨hc, hf⟩ := bcell hb; (try have hz0 : w.heap.size < w1.heap.size := (by have := hb.size; (try simp at this); omega)); (try have hz1 : w.heap.size + 1 < w1.heap.size := (by have := hb.size; (try simp at this); omega)); (try have hz2 : w.heap.size + 2 < w1.heap.size := (by have := hb.size; (try simp at this); omega))))
      all_goals
        refine bodyPost_ret (v := .agg #[.float .f64 (readLoT x y), .float .f64 (readHiT x y)]) (by simp [results, Try.results53, go_sem, R1.out, R2.out, *]) rfl ⟨rfl, (by repeat (first | exact Below.refl _ _ | (refine Below.alloc ?_ (by first | exact Nat.le_refl _ | (simp; done) | (simp; omega)) _) | refine Below.drew ?_ | refine below_drewN ?_ _ | (refine Below.setCell ?_ (by first | exact Nat.le_refl _ | (simp; done) | (simp; omega)) _) | refine below_then ?_ (by assumption)))⟩
    case false =>
      cases h3 : infNegD y
      case true =>
        have R1 : Hid (readLoT x y = 9218868437227405312) := Lib.hid (by unfold readLoT soundT; rw [h1, h2, h3]; rfl)
        have R2 : Hid (readHiT x y = 18442240474082181120) := Lib.hid (by unfold readHiT soundT; rw [h1, h2, h3]; rfl)
        have H2 := Lib.hid h2; have H3 := Lib.hid h3; clear h1 h2 h3
        go_enter Try.func53, Try.ntmps53
        go_wp2_with (first | (go_at_call 88; first | ((with_reducible refine (isInf_pos _ _).mono ?_); rintro e w' ⟨rfl, rfl⟩; (try first | rw [H2.out] | rw [H3.out])) | ((with_reducible refine (isInf_neg _ _).mono ?_); rintro e w' ⟨rfl, rfl⟩; (try first | rw [H2.out] | rw [H3.out]))) | (go_at_call 54; refine (none64_any _).mono ?_; rintro e w1 ⟨rfl, hb⟩; obtain ⟨hc, hf⟩ := bcell hb; (try have hz0 : w.heap.size < w1.heap.size := (by have := hb.size; (try simp at this); omega)); (try have hz1 : w.heap.size + 1 < w1.heap.size := (by have := hb.size; (try simp at this); omega)); (try have hz2 : w.heap.size + 2 < w1.heap.size := (by have := hb.size; (try simp at this); omega))))
        all_goals
          refine bodyPost_ret (v := .agg #[.float .f64 (readLoT x y), .float .f64 (readHiT x y)]) (by simp [results, Try.results53, go_sem, R1.out, R2.out, *]) rfl ⟨rfl, (by repeat (first | exact Below.refl _ _ | (refine Below.alloc ?_ (by first | exact Nat.le_refl _ | (simp; done) | (simp; omega)) _) | refine Below.drew ?_ | refine below_drewN ?_ _ | (refine Below.setCell ?_ (by first | exact Nat.le_refl _ | (simp; done) | (simp; omega)) _) | refine below_then ?_ (by assumption)))⟩
      case false =>
        have R1 : Hid (readLoT x y = plainF .f64 x) := Lib.hid (by unfold readLoT soundT; rw [h1, h2, h3]; rfl)
        have R2 : Hid (readHiT x y = plainF .f64 y) := Lib.hid (by unfold readHiT soundT; rw [h1, h2, h3]; rfl)
        have H2 := Lib.hid h2; have H3 := Lib.hid h3; clear h1 h2 h3
        go_enter Try.func53, Try.ntmps53
        go_wp2_with (first | (go_at_call 88; first | ((with_reducible refine (isInf_pos _ _).mono ?_); rintro e w' ⟨rfl, rfl⟩; (try first | rw [H2.out] | rw [H3.out])) | ((with_reducible refine (isInf_neg _ _).mono ?_); rintro e w' ⟨rfl, rfl⟩; (try first | rw [H2.out] | rw [H3.out]))) | (go_at_call 54; refine (none64_any _).mono ?_; rintro e w1 ⟨rfl, hb⟩; obtain ⟨hc, hf⟩ := bcell hb; (try have hz0 : w.heap.size < w1.heap.size := (by have := hb.size; (try simp at this); omega)); (try have hz1 : w.heap.size + 1 < w1.heap.size := (by have := hb.size; (try simp at this); omega)); (try have hz2 : w.heap.size + 2 < w1.heap.size := (by have := hb.size; (try simp at this); omega))))
        refine region_tail 7 (by kernel_rfl) (by kernel_rfl) ?_
        simp only [List.take_succ_cons, List.take_zero, List.drop_succ_cons, List.drop_zero]
        repeat (refine wpStill_step (fun K hK => ?_); go_simp; first | (refine hK _ ?_; clear hK K) | (refine ⟨_, (plain64_any _ _).mono fun e w' h => ⟨h.1, h.2.symm⟩, hK _ ?_⟩; clear hK K))
        try refine wpStill_nil ?_
        go_wp2
        all_goals
          refine bodyPost_ret (v := .agg #[.float .f64 (readLoT x y), .float .f64 (readHiT x y)]) (by simp [results, Try.results53, go_sem, R1.out, R2.out, *]) rfl ⟨rfl, (by repeat (first | exact Below.refl _ _ | (refine Below.alloc ?_ (by first | exact Nat.le_refl _ | (simp; done) | (simp; omega)) _) | refine Below.drew ?_ | refine below_drewN ?_ _ | (refine Below.setCell ?_ (by first | exact Nat.le_refl _ | (simp; done) | (simp; omega)) _) | refine below_then ?_ (by assumption)))⟩

set_option maxRecDepth 100000 in
set_option maxHeartbeats 400000 in
theorem plainFar_any (x : Nat) (w : World) :
    Calls Try.prog 94 #[.float .f64 x] w fun e w' => e = .returned (.float .f64 (plainF .f64 x)) ∧ w = w' := by
  have hz : (FloatKind.f64.format.order x 0 == some .eq) = eqZeroF .f64 x := rfl
  cases he : eqZeroF .f64 x
  all_goals
    have H := Lib.hid he
    rw [he] at hz; clear he
    go_enter Try.func94, Try.ntmps94
    go_wp2
    go_ret
    exact ⟨ret_float (by unfold plainF; rw [H.out]; rfl), rfl⟩

set_option maxRecDepth 100000 in
set_option maxHeartbeats 400000 in
theorem noneFar_any  (w : World) :
    Calls Try.prog 93 #[] w fun e w' => e = .returned (.agg #[.float .f64 9218868437227405312, .float .f64 18442240474082181120]) ∧ Below w.heap.size w w' := by
  go_enter Try.func93, Try.ntmps93
  go_wp2_with (go_at_call 89; first | ((with_reducible refine (inf_pos _ (by omega) _).mono ?_); rintro e w' ⟨rfl, rfl⟩) | ((with_reducible refine (inf_neg _ (by omega) _).mono ?_); rintro e w' ⟨rfl, rfl⟩))
  all_goals
    refine bodyPost_ret (v := .agg #[.float .f64 9218868437227405312, .float .f64 18442240474082181120]) (by simp [results, Try.results93, go_sem, *]) rfl ⟨rfl, (by repeat (first | exact Below.refl _ _ | (refine Below.alloc ?_ (by first | exact Nat.le_refl _ | (simp; done) | (simp; omega)) _) | refine Below.drew ?_ | refine below_drewN ?_ _ | (refine Below.setCell ?_ (by first | exact Nat.le_refl _ | (simp; done) | (simp; omega)) _) | refine below_then ?_ (by assumption)))⟩

set_option maxRecDepth 100000 in
set_option maxHeartbeats 400000 in
theorem readFar_any (x y : Nat) (w : World) :
    Calls Try.prog 55 #[.agg #[.float .f64 x, .float .f64 y]] w fun e w' => e = .returned (.agg #[.float .f64 (readLoT x y), .float .f64 (readHiT x y)]) ∧ Below w.heap.size w w' := by
  have hle : (FloatKind.f64.format.order x y == some .lt || FloatKind.f64.format.order x y == some .eq) = leqF .f64 x y := rfl
  cases h1 : leqF .f64 x y
  case false =>
    rw [h1] at hle
    have R1 : Hid (readLoT x y = 9218868437227405312) := Lib.hid (by unfold readLoT soundT; rw [h1]; rfl)
    have R2 : Hid (readHiT x y = 18442240474082181120) := Lib.hid (by unfold readHiT soundT; rw [h1]; rfl)
    clear h1
    go_enter Try.func55, Try.ntmps55
    go_wp2_with (first | (go_at_call 88; first | ((with_reducible refine (isInf_pos _ _).mono ?_); rintro e w' ⟨rfl, rfl⟩) | ((with_reducible refine (isInf_neg _ _).mono ?_); rintro e w' ⟨rfl, rfl⟩)) | (go_at_call 93; refine (noneFar_any _).mono ?_; rintro e w1 ⟨rfl, hb⟩; obtain ⟨hc, hf⟩ := bcell hb; (try have hz0 : w.heap.size < w1.heap.size := (by have := hb.size; (try simp at this); omega)); (try have hz1 : w.heap.size + 1 < w1.heap.size := (by have := hb.size; (try simp at this); omega)); (try have hz2 : w.heap.size + 2 < w1.heap.size := (by have := hb.size; (try simp at this); omega))))
    all_goals
      refine bodyPost_ret (v := .agg #[.float .f64 (readLoT x y), .float .f64 (readHiT x y)]) (by simp [results, Try.results55, go_sem, R1.out, R2.out, *]) rfl ⟨rfl, (by repeat (first | exact Below.refl _ _ | (refine Below.alloc ?_ (by first | exact Nat.le_refl _ | (simp; done) | (simp; omega)) _) | refine Below.drew ?_ | refine below_drewN ?_ _ | (refine Below.setCell ?_ (by first | exact Nat.le_refl _ | (simp; done) | (simp; omega)) _) | refine below_then ?_ (by assumption)))⟩
  case true =>
    rw [h1] at hle
    cases h2 : infPosD x
    case true =>
      have R1 : Hid (readLoT x y = 9218868437227405312) := Lib.hid (by unfold readLoT soundT; rw [h1, h2]; rfl)
      have R2 : Hid (readHiT x y = 18442240474082181120) := Lib.hid (by unfold readHiT soundT; rw [h1, h2]; rfl)
      have H2 := Lib.hid h2; clear h1 h2
      go_enter Try.func55, Try.ntmps55
      go_wp2_with (first | (go_at_call 88; first | ((with_reducible refine (isInf_pos _ _).mono ?_); rintro e w' ⟨rfl, rfl⟩; (try first | rw [H2.out])) | ((with_reducible refine (isInf_neg _ _).mono ?_); rintro e w' ⟨rfl, rfl⟩; (try first | rw [H2.out]))) | (go_at_call 93; refine (noneFar_any _).mono ?_; rintro e w1 ⟨rfl, hb⟩; obtain ⟨hc, hf⟩ := bcell hb; (try have hz0 : w.heap.size < w1.heap.size := (by have := hb.size; (try simp at this); omega)); (try have hz1 : w.heap.size + 1 < w1.heap.size := (by have := hb.size; (try simp at this); omega)); (try have hz2 : w.heap.size + 2 < w1.heap.size := (by have := hb.size; (try simp at this); omega))))
      all_goals
        refine bodyPost_ret (v := .agg #[.float .f64 (readLoT x y), .float .f64 (readHiT x y)]) (by simp [results, Try.results55, go_sem, R1.out, R2.out, *]) rfl ⟨rfl, (by repeat (first | exact Below.refl _ _ | (refine Below.alloc ?_ (by first | exact Nat.le_refl _ | (simp; done) | (simp; omega)) _) | refine Below.drew ?_ | refine below_drewN ?_ _ | (refine Below.setCell ?_ (by first | exact Nat.le_refl _ | (simp; done) | (simp; omega)) _) | refine below_then ?_ (by assumption)))⟩
    case false =>
      cases h3 : infNegD y
      case true =>
        have R1 : Hid (readLoT x y = 9218868437227405312) := Lib.hid (by unfold readLoT soundT; rw [h1, h2, h3]; rfl)
        have R2 : Hid (readHiT x y = 18442240474082181120) := Lib.hid (by unfold readHiT soundT; rw [h1, h2, h3]; rfl)
        have H2 := Lib.hid h2; have H3 := Lib.hid h3; clear h1 h2 h3
        go_enter Try.func55, Try.ntmps55
        go_wp2_with (first | (go_at_call 88; first | ((with_reducible refine (isInf_pos _ _).mono ?_); rintro e w' ⟨rfl, rfl⟩; (try first | rw [H2.out] | rw [H3.out])) | ((with_reducible refine (isInf_neg _ _).mono ?_); rintro e w' ⟨rfl, rfl⟩; (try first | rw [H2.out] | rw [H3.out]))) | (go_at_call 93; refine (noneFar_any _).mono ?_; rintro e w1 ⟨rfl, hb⟩; obtain ⟨hc, hf⟩ := bcell hb; (try have hz0 : w.heap.size < w1.heap.size := (by have := hb.size; (try simp at this); omega)); (try have hz1 : w.heap.size + 1 < w1.heap.size := (by have := hb.size; (try simp at this); omega)); (try have hz2 : w.heap.size + 2 < w1.heap.size := (by have := hb.size; (try simp at this); omega))))
        all_goals
          refine bodyPost_ret (v := .agg #[.float .f64 (readLoT x y), .float .f64 (readHiT x y)]) (by simp [results, Try.results55, go_sem, R1.out, R2.out, *]) rfl ⟨rfl, (by repeat (first | exact Below.refl _ _ | (refine Below.alloc ?_ (by first | exact Nat.le_refl _ | (simp; done) | (simp; omega)) _) | refine Below.drew ?_ | refine below_drewN ?_ _ | (refine Below.setCell ?_ (by first | exact Nat.le_refl _ | (simp; done) | (simp; omega)) _) | refine below_then ?_ (by assumption)))⟩
      case false =>
        have R1 : Hid (readLoT x y = plainF .f64 x) := Lib.hid (by unfold readLoT soundT; rw [h1, h2, h3]; rfl)
        have R2 : Hid (readHiT x y = plainF .f64 y) := Lib.hid (by unfold readHiT soundT; rw [h1, h2, h3]; rfl)
        have H2 := Lib.hid h2; have H3 := Lib.hid h3; clear h1 h2 h3
        go_enter Try.func55, Try.ntmps55
        go_wp2_with (first | (go_at_call 88; first | ((with_reducible refine (isInf_pos _ _).mono ?_); rintro e w' ⟨rfl, rfl⟩; (try first | rw [H2.out] | rw [H3.out])) | ((with_reducible refine (isInf_neg _ _).mono ?_); rintro e w' ⟨rfl, rfl⟩; (try first | rw [H2.out] | rw [H3.out]))) | (go_at_call 93; refine (noneFar_any _).mono ?_; rintro e w1 ⟨rfl, hb⟩; obtain ⟨hc, hf⟩ := bcell hb; (try have hz0 : w.heap.size < w1.heap.size := (by have := hb.size; (try simp at this); omega)); (try have hz1 : w.heap.size + 1 < w1.heap.size := (by have := hb.size; (try simp at this); omega)); (try have hz2 : w.heap.size + 2 < w1.heap.size := (by have := hb.size; (try simp at this); omega))))
        refine region_tail 7 (by kernel_rfl) (by kernel_rfl) ?_
        simp only [List.take_succ_cons, List.take_zero, List.drop_succ_cons, List.drop_zero]
        repeat (refine wpStill_step (fun K hK => ?_); go_simp; first | (refine hK _ ?_; clear hK K) | (refine ⟨_, (plainFar_any _ _).mono fun e w' h => ⟨h.1, h.2.symm⟩, hK _ ?_⟩; clear hK K))
        try refine wpStill_nil ?_
        go_wp2
        all_goals
          refine bodyPost_ret (v := .agg #[.float .f64 (readLoT x y), .float .f64 (readHiT x y)]) (by simp [results, Try.results55, go_sem, R1.out, R2.out, *]) rfl ⟨rfl, (by repeat (first | exact Below.refl _ _ | (refine Below.alloc ?_ (by first | exact Nat.le_refl _ | (simp; done) | (simp; omega)) _) | refine Below.drew ?_ | refine below_drewN ?_ _ | (refine Below.setCell ?_ (by first | exact Nat.le_refl _ | (simp; done) | (simp; omega)) _) | refine below_then ?_ (by assumption)))⟩

end Go.Proofs.Ytamaeggkpdgaiaa
