/- The walks of the reference's intervals of binary32. -/
import Derived.Test.YtamaeggkpdgaiaaWd
namespace Go.Proofs.Ytamaeggkpdgaiaa
open Go.RowKit

set_option maxRecDepth 100000 in
set_option maxHeartbeats 400000 in
theorem wideN_any (x : Nat) (hx : W32 x) (w : World) :
    Calls Try.prog 87 #[.int .u32 (x : Int)] w fun e w' => e = .returned (.int .u64 (wideN x : Int)) ∧ w = w' := by
  have h31 := and31 hx
  cases h1e : decide ((2139095040 : Int) < (x : Int) % 2147483648)
  case false =>
    have H1 := Lib.hid h1e
    go_enter Try.func87, Try.ntmps87
    go_wp2_with ((go_at_call 124; refine (wideR_any _ (by assumption) _).mono ?_; rintro e w' ⟨rfl, rfl⟩; (try first | rw [H1.out])))
    all_goals
      go_ret
      exact ⟨ret_int (by rw [wideN_if]; simp [H1.out]), rfl⟩
  case true =>
    have H1 := Lib.hid h1e
    go_enter Try.func87, Try.ntmps87
    go_wp2_with ((go_at_call 124; refine (wideR_any _ (by assumption) _).mono ?_; rintro e w' ⟨rfl, rfl⟩; (try first | rw [H1.out])))
    all_goals
      go_ret
      exact ⟨ret_int (by rw [wideN_if]; simp [H1.out]), rfl⟩

set_option maxRecDepth 100000 in
set_option maxHeartbeats 400000 in
theorem wideAll_any (x y : Nat) (hx : W32 x) (hy : W32 y) (w : World) :
    Calls Try.prog 45 #[.agg #[.int .u32 (x : Int), .int .u32 (y : Int)]] w fun e w' => e = .returned (.agg #[.int .u64 (wideN x : Int), .int .u64 (wideN y : Int)]) ∧ Below w.heap.size w w' := by
  go_enter Try.func45, Try.ntmps45
  go_wp2
  refine region_tail 7 (by kernel_rfl) (by kernel_rfl) ?_
  simp only [List.take_succ_cons, List.take_zero, List.drop_succ_cons, List.drop_zero]
  repeat (refine wpStill_step (fun K hK => ?_); go_simp; first | (refine hK _ ?_; clear hK K) | (refine ⟨_, (wideN_any _ (by assumption) _).mono fun e w' h => ⟨h.1, h.2.symm⟩, hK _ ?_⟩; clear hK K))
  try refine wpStill_nil ?_
  go_wp2
  all_goals
    refine bodyPost_ret (v := .agg #[.int .u64 (wideN x : Int), .int .u64 (wideN y : Int)]) (by simp [results, Try.results45, go_sem, *]) rfl ⟨rfl, (by repeat (first | exact Below.refl _ _ | (refine Below.alloc ?_ (by first | exact Nat.le_refl _ | (simp; done) | (simp; omega)) _) | refine Below.drew ?_ | refine below_drewN ?_ _ | (refine Below.setCell ?_ (by first | exact Nat.le_refl _ | (simp; done) | (simp; omega)) _) | refine below_then ?_ (by assumption)))⟩

set_option maxRecDepth 100000 in
set_option maxHeartbeats 400000 in
theorem wide14_any (x y : Nat) (hx : W32 x) (hy : W32 y) (w : World) :
    Calls Try.prog 12 #[.agg #[.int .u32 (x : Int), .int .u32 (y : Int)]] w fun e w' => e = .returned (.agg #[.int .u64 (readLo (wideN x) (wideN y) : Int), .int .u64 (readHi (wideN x) (wideN y) : Int)]) ∧ Below w.heap.size w w' := by
  have hx1 := wideN_lt hx
  have hy1 := wideN_lt hy
  go_enter Try.func12, Try.ntmps12
  go_wp2_with (first
      | (go_at_call 45; refine (wideAll_any _ _ (by assumption) (by assumption) _).mono ?_; rintro e w1 ⟨rfl, hb⟩; obtain ⟨hc, hf⟩ := bcell hb; (try have hz0 : w.heap.size < w1.heap.size := (by have := hb.size; (try simp at this); omega)); (try have hz1 : w.heap.size + 1 < w1.heap.size := (by have := hb.size; (try simp at this); omega)); (try have hz2 : w.heap.size + 2 < w1.heap.size := (by have := hb.size; (try simp at this); omega)))
      | (go_at_call 44; refine (readD_any _ _ (by assumption) (by assumption) _).mono ?_; rintro e w1 ⟨rfl, hb⟩; obtain ⟨hc, hf⟩ := bcell hb; (try have hz0 : w.heap.size < w1.heap.size := (by have := hb.size; (try simp at this); omega)); (try have hz1 : w.heap.size + 1 < w1.heap.size := (by have := hb.size; (try simp at this); omega)); (try have hz2 : w.heap.size + 2 < w1.heap.size := (by have := hb.size; (try simp at this); omega))))
  all_goals
    refine bodyPost_ret (v := .agg #[.int .u64 (readLo (wideN x) (wideN y) : Int), .int .u64 (readHi (wideN x) (wideN y) : Int)]) (by simp [results, Try.results12, go_sem, *]) rfl ⟨rfl, (by repeat (first | exact Below.refl _ _ | (refine Below.alloc ?_ (by first | exact Nat.le_refl _ | (simp; done) | (simp; omega)) _) | refine Below.drew ?_ | refine below_drewN ?_ _ | (refine Below.setCell ?_ (by first | exact Nat.le_refl _ | (simp; done) | (simp; omega)) _) | refine below_then ?_ (by assumption)))⟩

set_option maxRecDepth 100000 in
set_option maxHeartbeats 400000 in
theorem in_any (x y : Nat) (w : World) :
    Calls Try.prog 11 #[.agg #[.int .u32 (x : Int), .int .u32 (y : Int)]] w fun e w' => e = .returned (.agg #[.float .f32 x, .float .f32 y]) ∧ Below w.heap.size w w' := by
  go_enter Try.func11, Try.ntmps11
  go_wp2
  refine region_tail 7 (by kernel_rfl) (by kernel_rfl) ?_
  simp only [List.take_succ_cons, List.take_zero, List.drop_succ_cons, List.drop_zero]
  repeat (refine wpStill_step (fun K hK => ?_); go_simp; first | (refine hK _ ?_; clear hK K))
  try refine wpStill_nil ?_
  go_wp2
  all_goals
    refine bodyPost_ret (v := .agg #[.float .f32 x, .float .f32 y]) (by simp [results, Try.results11, go_sem, *]) rfl ⟨rfl, (by repeat (first | exact Below.refl _ _ | (refine Below.alloc ?_ (by first | exact Nat.le_refl _ | (simp; done) | (simp; omega)) _) | refine Below.drew ?_ | refine below_drewN ?_ _ | (refine Below.setCell ?_ (by first | exact Nat.le_refl _ | (simp; done) | (simp; omega)) _) | refine below_then ?_ (by assumption)))⟩

set_option maxRecDepth 100000 in
set_option maxHeartbeats 400000 in
theorem out_any (x y : Nat) (w : World) :
    Calls Try.prog 13 #[.agg #[.float .f32 x, .float .f32 y]] w fun e w' => e = .returned (.agg #[.int .u32 (x : Int), .int .u32 (y : Int)]) ∧ Below w.heap.size w w' := by
  go_enter Try.func13, Try.ntmps13
  go_wp2
  refine region_tail 7 (by kernel_rfl) (by kernel_rfl) ?_
  simp only [List.take_succ_cons, List.take_zero, List.drop_succ_cons, List.drop_zero]
  repeat (refine wpStill_step (fun K hK => ?_); go_simp; first | (refine hK _ ?_; clear hK K))
  try refine wpStill_nil ?_
  go_wp2
  all_goals
    refine bodyPost_ret (v := .agg #[.int .u32 (x : Int), .int .u32 (y : Int)]) (by simp [results, Try.results13, go_sem, *]) rfl ⟨rfl, (by repeat (first | exact Below.refl _ _ | (refine Below.alloc ?_ (by first | exact Nat.le_refl _ | (simp; done) | (simp; omega)) _) | refine Below.drew ?_ | refine below_drewN ?_ _ | (refine Below.setCell ?_ (by first | exact Nat.le_refl _ | (simp; done) | (simp; omega)) _) | refine below_then ?_ (by assumption)))⟩

set_option maxRecDepth 100000 in
set_option maxHeartbeats 400000 in
theorem inLong_any (x y : Nat) (w : World) :
    Calls Try.prog 21 #[.agg #[.int .u64 (x : Int), .int .u64 (y : Int)]] w fun e w' => e = .returned (.agg #[.float .f64 x, .float .f64 y]) ∧ Below w.heap.size w w' := by
  go_enter Try.func21, Try.ntmps21
  go_wp2
  refine region_tail 7 (by kernel_rfl) (by kernel_rfl) ?_
  simp only [List.take_succ_cons, List.take_zero, List.drop_succ_cons, List.drop_zero]
  repeat (refine wpStill_step (fun K hK => ?_); go_simp; first | (refine hK _ ?_; clear hK K))
  try refine wpStill_nil ?_
  go_wp2
  all_goals
    refine bodyPost_ret (v := .agg #[.float .f64 x, .float .f64 y]) (by simp [results, Try.results21, go_sem, *]) rfl ⟨rfl, (by repeat (first | exact Below.refl _ _ | (refine Below.alloc ?_ (by first | exact Nat.le_refl _ | (simp; done) | (simp; omega)) _) | refine Below.drew ?_ | refine below_drewN ?_ _ | (refine Below.setCell ?_ (by first | exact Nat.le_refl _ | (simp; done) | (simp; omega)) _) | refine below_then ?_ (by assumption)))⟩

set_option maxRecDepth 100000 in
set_option maxHeartbeats 400000 in
theorem outLong_any (x y : Nat) (w : World) :
    Calls Try.prog 9 #[.agg #[.float .f64 x, .float .f64 y]] w fun e w' => e = .returned (.agg #[.int .u64 (x : Int), .int .u64 (y : Int)]) ∧ Below w.heap.size w w' := by
  go_enter Try.func9, Try.ntmps9
  go_wp2
  refine region_tail 7 (by kernel_rfl) (by kernel_rfl) ?_
  simp only [List.take_succ_cons, List.take_zero, List.drop_succ_cons, List.drop_zero]
  repeat (refine wpStill_step (fun K hK => ?_); go_simp; first | (refine hK _ ?_; clear hK K))
  try refine wpStill_nil ?_
  go_wp2
  all_goals
    refine bodyPost_ret (v := .agg #[.int .u64 (x : Int), .int .u64 (y : Int)]) (by simp [results, Try.results9, go_sem, *]) rfl ⟨rfl, (by repeat (first | exact Below.refl _ _ | (refine Below.alloc ?_ (by first | exact Nat.le_refl _ | (simp; done) | (simp; omega)) _) | refine Below.drew ?_ | refine below_drewN ?_ _ | (refine Below.setCell ?_ (by first | exact Nat.le_refl _ | (simp; done) | (simp; omega)) _) | refine below_then ?_ (by assumption)))⟩

end Go.Proofs.Ytamaeggkpdgaiaa
