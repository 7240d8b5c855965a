/- The walks of Wide and of the law ShortWides. -/
import Derived.Test.YtamaeggkpdgaiaaWf
import Derived.Test.YtamaeggkpdgaiaaGa
namespace Go.Proofs.Ytamaeggkpdgaiaa
open Go.RowKit

set_option maxRecDepth 100000 in
set_option maxHeartbeats 400000 in
theorem wideS_any (x y : Nat) (w : World) :
    Calls Try.prog 10 #[.agg #[.float .f32 x, .float .f32 y]] w fun e w' => e = .returned (.agg #[.float .f64 (wideF (readLoS x y)), .float .f64 (wideF (readHiS x y))]) ∧ Below w.heap.size w w' := by
  have cv1 : ∀ w : World, (convert 33 29 (.float .f32 (readLoS x y))).run Try.prog w = .ok (.float .f64 (wideF (readLoS x y))) w := fun w => conv_wide w rfl rfl (nan_read (readLoS_nan x y))
  have cv2 : ∀ w : World, (convert 33 29 (.float .f32 (readHiS x y))).run Try.prog w = .ok (.float .f64 (wideF (readHiS x y))) w := fun w => conv_wide w rfl rfl (nan_read (readHiS_nan x y))
  go_enter Try.func10, Try.ntmps10
  go_wp2_with ((go_at_call 32; refine (readS_any _ _ _).mono ?_; rintro e w1 ⟨rfl, hb⟩; obtain ⟨hc, hf⟩ := bcell hb; (try have hz0 : w.heap.size < w1.heap.size := (by have := hb.size; (try simp at this); omega)); (try have hz1 : w.heap.size + 1 < w1.heap.size := (by have := hb.size; (try simp at this); omega)); (try have hz2 : w.heap.size + 2 < w1.heap.size := (by have := hb.size; (try simp at this); omega))))
  all_goals
    refine bodyPost_ret (v := .agg #[.float .f64 (wideF (readLoS x y)), .float .f64 (wideF (readHiS x y))]) (by simp [results, Try.results10, go_sem, *]) rfl ⟨rfl, (by repeat (first | exact Below.refl _ _ | (refine Below.alloc ?_ (by first | exact Nat.le_refl _ | (simp; done) | (simp; omega)) _) | refine Below.drew ?_ | refine below_drewN ?_ _ | (refine Below.setCell ?_ (by first | exact Nat.le_refl _ | (simp; done) | (simp; omega)) _) | refine below_then ?_ (by assumption)))⟩

theorem wide14_f (x y : Nat) (hx : W32 x) (hy : W32 y) (w : World) :
    Calls Try.prog 12 #[.agg #[.int .u32 (x : Int), .int .u32 (y : Int)]] w fun e w' => e = .returned (.agg #[.int .u64 (wideF (readLoS x y) : Int), .int .u64 (wideF (readHiS x y) : Int)]) ∧ Below w.heap.size w w' := by
  have h := wide14_any x y hx hy w
  rw [readLo_wide hx hy, readHi_wide hx hy] at h
  exact h

set_option maxRecDepth 100000 in
set_option maxHeartbeats 400000 in
theorem shortWides_any (x y : Nat) (hx : W32 x) (hy : W32 y) (w : World) :
    Calls Try.prog 3 #[.agg #[.int .u32 (x : Int), .int .u32 (y : Int)]] w fun e w' => e = .returned (.bool true) ∧ Below w.heap.size w w' := by
  go_enter Try.func3, Try.ntmps3
  go_wp2
  refine region_quiet (by kernel_rfl) (by kernel_rfl) ?_
  repeat (refine wpQuiet_step (fun K hK => ?_); go_simp; first | (refine hK _ ?_; clear hK K) | (apply Exists.intro; refine ⟨fun _ => ?_, hK _ ?_⟩; (first | (with_reducible exact qcall (in_any _ _ _)) | (with_reducible exact qcall (wideS_any _ _ _)) | (with_reducible exact qcall (outLong_any _ _ _)) | (with_reducible exact qcall (wide14_f _ _ (by assumption) (by assumption) _))); clear hK K))
  refine wpQuiet_nil ?_
  intro w1 hb; obtain ⟨hc, hf⟩ := bcell hb; (try have hz0 : w.heap.size < w1.heap.size := (by have := hb.size; (try simp at this); omega)); (try have hz1 : w.heap.size + 1 < w1.heap.size := (by have := hb.size; (try simp at this); omega)); (try have hz2 : w.heap.size + 2 < w1.heap.size := (by have := hb.size; (try simp at this); omega))
  go_wp2
  all_goals
    go_ret
    exact ⟨rfl, (by repeat (first | exact Below.refl _ _ | (refine Below.alloc ?_ (by first | exact Nat.le_refl _ | (simp; done) | (simp; omega)) _) | refine Below.drew ?_ | refine below_drewN ?_ _ | (refine Below.setCell ?_ (by first | exact Nat.le_refl _ | (simp; done) | (simp; omega)) _) | refine below_then ?_ (by assumption)))⟩

end Go.Proofs.Ytamaeggkpdgaiaa
