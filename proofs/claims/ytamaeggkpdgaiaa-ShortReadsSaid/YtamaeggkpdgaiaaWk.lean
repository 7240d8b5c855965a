/- The walk of the law ShortReads. -/
import Derived.Test.YtamaeggkpdgaiaaWj
namespace Go.Proofs.Ytamaeggkpdgaiaa
open Go.RowKit

set_option maxRecDepth 100000 in
set_option maxHeartbeats 400000 in
theorem shortReads_any (x y : Nat) (hx : W32 x) (hy : W32 y) (w : World) :
    Calls Try.prog 7 #[.agg #[.int .u32 (x : Int), .int .u32 (y : Int)]] w fun e w' => e = .returned (.bool true) ∧ Below w.heap.size w w' := by
  go_enter Try.func7, Try.ntmps7
  go_wp2
  refine region_quiet (by kernel_rfl) (by kernel_rfl) ?_
  repeat (refine wpQuiet_step (fun K hK => ?_); go_simp; first | (refine hK _ ?_; clear hK K) | (apply Exists.intro; refine ⟨fun _ => ?_, hK _ ?_⟩; (first | (with_reducible exact qcall (in_any _ _ _)) | (with_reducible exact qcall (out_any _ _ _)) | (with_reducible exact qcall (readS_any _ _ _)) | (with_reducible exact qcall (validS_any _ _ (by assumption) (by assumption) _)) | (with_reducible exact qcall (read14_any _ _ (by assumption) (by assumption) _)) | (with_reducible exact qcall (valid14_any _ _ (by assumption) (by assumption) _))); clear hK K))
  refine wpQuiet_nil ?_
  intro w1 hb; obtain ⟨hc, hf⟩ := bcell hb; (try have hz0 : w.heap.size < w1.heap.size := (by have := hb.size; (try simp at this); omega)); (try have hz1 : w.heap.size + 1 < w1.heap.size := (by have := hb.size; (try simp at this); omega)); (try have hz2 : w.heap.size + 2 < w1.heap.size := (by have := hb.size; (try simp at this); omega)); (try have hs0 : w.heap.size ≤ w1.heap.size := (by have := hb.size; (try simp at this); omega))
  go_wp2
  all_goals
    go_ret
    exact ⟨rfl, (by repeat (first | exact Below.refl _ _ | (refine Below.alloc ?_ (by first | exact Nat.le_refl _ | omega | (simp; done) | (simp; omega)) _) | refine Below.drew ?_ | refine below_drewN ?_ _ | (refine Below.setCell ?_ (by first | exact Nat.le_refl _ | omega | (simp; done) | (simp; omega)) _) | refine below_then ?_ (by assumption)))⟩

end Go.Proofs.Ytamaeggkpdgaiaa
