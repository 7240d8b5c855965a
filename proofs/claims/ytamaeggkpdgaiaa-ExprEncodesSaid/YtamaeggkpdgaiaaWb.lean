/- The walks of the reference's reading of intervals. -/
import Derived.Test.YtamaeggkpdgaiaaWa
import Derived.StillTailTactics
namespace Go.Proofs.Ytamaeggkpdgaiaa
open Go.RowKit

set_option maxRecDepth 100000 in
set_option maxHeartbeats 400000 in
theorem aboveD_any (x y : Nat) (hx : W64 x) (hy : W64 y) (w : World) :
    Calls Try.prog 58 #[.int .u64 (x : Int), .int .u64 (y : Int)] w fun e w' => e = .returned (.bool (aboveD x y)) ∧ w = w' := by
  cases h1e : nanD x
  case false =>
    cases h2e : nanD y
    case false =>
      have H1 := Lib.hid h1e; clear h1e
      have H2 := Lib.hid h2e; clear h2e
      go_enter Try.func58, Try.ntmps58
      go_wp2_with (first
          | (go_at_call 97; refine (isNaN_any _ (by assumption) _).mono ?_; rintro e w' ⟨rfl, rfl⟩; (try first | rw [H1.out] | rw [H2.out]))
          | (go_at_call 98; refine (keyD_any _ (by assumption) _).mono ?_; rintro e w' ⟨rfl, rfl⟩; (try first | rw [H1.out] | rw [H2.out])))
      all_goals
        go_ret
        exact ⟨ret_bool (by unfold aboveD; simp [H1.out, H2.out]), rfl⟩
    case true =>
      have H1 := Lib.hid h1e; clear h1e
      have H2 := Lib.hid h2e; clear h2e
      go_enter Try.func58, Try.ntmps58
      go_wp2_with (first
          | (go_at_call 97; refine (isNaN_any _ (by assumption) _).mono ?_; rintro e w' ⟨rfl, rfl⟩; (try first | rw [H1.out] | rw [H2.out]))
          | (go_at_call 98; refine (keyD_any _ (by assumption) _).mono ?_; rintro e w' ⟨rfl, rfl⟩; (try first | rw [H1.out] | rw [H2.out])))
      all_goals
        go_ret
        exact ⟨ret_bool (by unfold aboveD; simp [H1.out, H2.out]), rfl⟩
  case true =>
    have H1 := Lib.hid h1e; clear h1e
    go_enter Try.func58, Try.ntmps58
    go_wp2_with (first
        | (go_at_call 97; refine (isNaN_any _ (by assumption) _).mono ?_; rintro e w' ⟨rfl, rfl⟩; (try first | rw [H1.out]))
        | (go_at_call 98; refine (keyD_any _ (by assumption) _).mono ?_; rintro e w' ⟨rfl, rfl⟩; (try first | rw [H1.out])))
    all_goals
      go_ret
      exact ⟨ret_bool (by unfold aboveD; simp [H1.out]), rfl⟩

set_option maxRecDepth 100000 in
set_option maxHeartbeats 400000 in
theorem soundD_any (x y : Nat) (hx : W64 x) (hy : W64 y) (w : World) :
    Calls Try.prog 85 #[.agg #[.int .u64 (x : Int), .int .u64 (y : Int)]] w fun e w' => e = .returned (.bool (soundD x y)) ∧ Below w.heap.size w w' := by
  cases h1e : nanD x
  case false =>
    cases h2e : nanD y
    case false =>
      cases h3e : aboveD x y
      case false =>
        cases h4e : ((x : Int) != 9218868437227405312)
        case false =>
          have H1 := Lib.hid h1e; clear h1e
          have H2 := Lib.hid h2e; clear h2e
          have H3 := Lib.hid h3e; clear h3e
          have H4 := Lib.hid h4e
          go_enter Try.func85, Try.ntmps85
          go_wp2_with (first
              | (go_at_call 97; refine (isNaN_any _ (by assumption) _).mono ?_; rintro e w' ⟨rfl, rfl⟩; (try first | rw [H1.out] | rw [H2.out] | rw [H3.out] | rw [H4.out]))
              | (go_at_call 58; refine (aboveD_any _ _ (by assumption) (by assumption) _).mono ?_; rintro e w' ⟨rfl, rfl⟩; (try first | rw [H1.out] | rw [H2.out] | rw [H3.out] | rw [H4.out])))
          all_goals
            go_ret
            exact ⟨ret_bool (by unfold soundD; simp [H1.out, H2.out, H3.out, H4.out]), (by repeat (first | exact Below.refl _ _ | (refine Below.alloc ?_ (by first | exact Nat.le_refl _ | (simp; done) | (simp; omega)) _) | refine Below.drew ?_ | refine below_drewN ?_ _ | (refine Below.setCell ?_ (by first | exact Nat.le_refl _ | (simp; done) | (simp; omega)) _) | refine below_then ?_ (by assumption)))⟩
        case true =>
          have H1 := Lib.hid h1e; clear h1e
          have H2 := Lib.hid h2e; clear h2e
          have H3 := Lib.hid h3e; clear h3e
          have H4 := Lib.hid h4e
          go_enter Try.func85, Try.ntmps85
          go_wp2_with (first
              | (go_at_call 97; refine (isNaN_any _ (by assumption) _).mono ?_; rintro e w' ⟨rfl, rfl⟩; (try first | rw [H1.out] | rw [H2.out] | rw [H3.out] | rw [H4.out]))
              | (go_at_call 58; refine (aboveD_any _ _ (by assumption) (by assumption) _).mono ?_; rintro e w' ⟨rfl, rfl⟩; (try first | rw [H1.out] | rw [H2.out] | rw [H3.out] | rw [H4.out])))
          all_goals
            go_ret
            exact ⟨ret_bool (by unfold soundD; simp [H1.out, H2.out, H3.out, H4.out]), (by repeat (first | exact Below.refl _ _ | (refine Below.alloc ?_ (by first | exact Nat.le_refl _ | (simp; done) | (simp; omega)) _) | refine Below.drew ?_ | refine below_drewN ?_ _ | (refine Below.setCell ?_ (by first | exact Nat.le_refl _ | (simp; done) | (simp; omega)) _) | refine below_then ?_ (by assumption)))⟩
      case true =>
        have H1 := Lib.hid h1e; clear h1e
        have H2 := Lib.hid h2e; clear h2e
        have H3 := Lib.hid h3e; clear h3e
        go_enter Try.func85, Try.ntmps85
        go_wp2_with (first
            | (go_at_call 97; refine (isNaN_any _ (by assumption) _).mono ?_; rintro e w' ⟨rfl, rfl⟩; (try first | rw [H1.out] | rw [H2.out] | rw [H3.out]))
            | (go_at_call 58; refine (aboveD_any _ _ (by assumption) (by assumption) _).mono ?_; rintro e w' ⟨rfl, rfl⟩; (try first | rw [H1.out] | rw [H2.out] | rw [H3.out])))
        all_goals
          go_ret
          exact ⟨ret_bool (by unfold soundD; simp [H1.out, H2.out, H3.out]), (by repeat (first | exact Below.refl _ _ | (refine Below.alloc ?_ (by first | exact Nat.le_refl _ | (simp; done) | (simp; omega)) _) | refine Below.drew ?_ | refine below_drewN ?_ _ | (refine Below.setCell ?_ (by first | exact Nat.le_refl _ | (simp; done) | (simp; omega)) _) | refine below_then ?_ (by assumption)))⟩
    case true =>
      have H1 := Lib.hid h1e; clear h1e
      have H2 := Lib.hid h2e; clear h2e
      go_enter Try.func85, Try.ntmps85
      go_wp2_with (first
          | (go_at_call 97; refine (isNaN_any _ (by assumption) _).mono ?_; rintro e w' ⟨rfl, rfl⟩; (try first | rw [H1.out] | rw [H2.out]))
          | (go_at_call 58; refine (aboveD_any _ _ (by assumption) (by assumption) _).mono ?_; rintro e w' ⟨rfl, rfl⟩; (try first | rw [H1.out] | rw [H2.out])))
      all_goals
        go_ret
        exact ⟨ret_bool (by unfold soundD; simp [H1.out, H2.out]), (by repeat (first | exact Below.refl _ _ | (refine Below.alloc ?_ (by first | exact Nat.le_refl _ | (simp; done) | (simp; omega)) _) | refine Below.drew ?_ | refine below_drewN ?_ _ | (refine Below.setCell ?_ (by first | exact Nat.le_refl _ | (simp; done) | (simp; omega)) _) | refine below_then ?_ (by assumption)))⟩
  case true =>
    have H1 := Lib.hid h1e; clear h1e
    go_enter Try.func85, Try.ntmps85
    go_wp2_with (first
        | (go_at_call 97; refine (isNaN_any _ (by assumption) _).mono ?_; rintro e w' ⟨rfl, rfl⟩; (try first | rw [H1.out]))
        | (go_at_call 58; refine (aboveD_any _ _ (by assumption) (by assumption) _).mono ?_; rintro e w' ⟨rfl, rfl⟩; (try first | rw [H1.out])))
    all_goals
      go_ret
      exact ⟨ret_bool (by unfold soundD; simp [H1.out]), (by repeat (first | exact Below.refl _ _ | (refine Below.alloc ?_ (by first | exact Nat.le_refl _ | (simp; done) | (simp; omega)) _) | refine Below.drew ?_ | refine below_drewN ?_ _ | (refine Below.setCell ?_ (by first | exact Nat.le_refl _ | (simp; done) | (simp; omega)) _) | refine below_then ?_ (by assumption)))⟩

set_option maxRecDepth 100000 in
set_option maxHeartbeats 400000 in
theorem emptyD_any  (w : World) :
    Calls Try.prog 57 #[] w fun e w' => e = .returned (.agg #[.int .u64 9218868437227405312, .int .u64 18442240474082181120]) ∧ Below w.heap.size w w' := by
  go_enter Try.func57, Try.ntmps57
  go_wp2
  all_goals
    refine bodyPost_ret (v := .agg #[.int .u64 9218868437227405312, .int .u64 18442240474082181120]) (by simp [results, Try.results57, go_sem]) rfl ⟨rfl, (by repeat (first | exact Below.refl _ _ | (refine Below.alloc ?_ (by first | exact Nat.le_refl _ | (simp; done) | (simp; omega)) _) | refine Below.drew ?_ | refine below_drewN ?_ _ | (refine Below.setCell ?_ (by first | exact Nat.le_refl _ | (simp; done) | (simp; omega)) _) | refine below_then ?_ (by assumption)))⟩

set_option maxRecDepth 100000 in
set_option maxHeartbeats 400000 in
theorem readD_any (x y : Nat) (hx : W64 x) (hy : W64 y) (w : World) :
    Calls Try.prog 44 #[.agg #[.int .u64 (x : Int), .int .u64 (y : Int)]] w fun e w' => e = .returned (.agg #[.int .u64 (readLo x y : Int), .int .u64 (readHi x y : Int)]) ∧ Below w.heap.size w w' := by
  cases h1e : soundD x y
  case false =>
    have R1 : Hid (readLo x y = 9218868437227405312) := Lib.hid (by unfold readLo; rw [h1e]; rfl)
    have R2 : Hid (readHi x y = 18442240474082181120) := Lib.hid (by unfold readHi; rw [h1e]; rfl)
    have H1 := Lib.hid h1e; clear h1e
    go_enter Try.func44, Try.ntmps44
    go_wp2_with (first
        | (go_at_call 85; refine (soundD_any _ _ (by assumption) (by assumption) _).mono ?_; rintro e w1 ⟨rfl, hb⟩; obtain ⟨hc, hf⟩ := bcell hb; (try have hz0 : w.heap.size < w1.heap.size := (by have := hb.size; (try simp at this); omega)); (try have hz1 : w.heap.size + 1 < w1.heap.size := (by have := hb.size; (try simp at this); omega)); (try have hz2 : w.heap.size + 2 < w1.heap.size := (by have := hb.size; (try simp at this); omega)); (try first | rw [H1.out]))
        | (go_at_call 57; refine (emptyD_any _).mono ?_; rintro e w1 ⟨rfl, hb⟩; obtain ⟨hc, hf⟩ := bcell hb; (try have hz0 : w.heap.size < w1.heap.size := (by have := hb.size; (try simp at this); omega)); (try have hz1 : w.heap.size + 1 < w1.heap.size := (by have := hb.size; (try simp at this); omega)); (try have hz2 : w.heap.size + 2 < w1.heap.size := (by have := hb.size; (try simp at this); omega)); (try first | rw [H1.out])))
    all_goals
      refine bodyPost_ret (v := .agg #[.int .u64 (readLo x y : Int), .int .u64 (readHi x y : Int)]) (by simp [results, Try.results44, go_sem, R1.out, R2.out, *]) rfl ⟨rfl, (by repeat (first | exact Below.refl _ _ | (refine Below.alloc ?_ (by first | exact Nat.le_refl _ | (simp; done) | (simp; omega)) _) | refine Below.drew ?_ | refine below_drewN ?_ _ | (refine Below.setCell ?_ (by first | exact Nat.le_refl _ | (simp; done) | (simp; omega)) _) | refine below_then ?_ (by assumption)))⟩
  case true =>
    have R1 : Hid (readLo x y = plainD x) := Lib.hid (by unfold readLo; rw [h1e]; rfl)
    have R2 : Hid (readHi x y = plainD y) := Lib.hid (by unfold readHi; rw [h1e]; rfl)
    have H1 := Lib.hid h1e; clear h1e
    go_enter Try.func44, Try.ntmps44
    go_wp2_with (first
        | (go_at_call 85; refine (soundD_any _ _ (by assumption) (by assumption) _).mono ?_; rintro e w1 ⟨rfl, hb⟩; obtain ⟨hc, hf⟩ := bcell hb; (try have hz0 : w.heap.size < w1.heap.size := (by have := hb.size; (try simp at this); omega)); (try have hz1 : w.heap.size + 1 < w1.heap.size := (by have := hb.size; (try simp at this); omega)); (try have hz2 : w.heap.size + 2 < w1.heap.size := (by have := hb.size; (try simp at this); omega)); (try first | rw [H1.out]))
        | (go_at_call 57; refine (emptyD_any _).mono ?_; rintro e w1 ⟨rfl, hb⟩; obtain ⟨hc, hf⟩ := bcell hb; (try have hz0 : w.heap.size < w1.heap.size := (by have := hb.size; (try simp at this); omega)); (try have hz1 : w.heap.size + 1 < w1.heap.size := (by have := hb.size; (try simp at this); omega)); (try have hz2 : w.heap.size + 2 < w1.heap.size := (by have := hb.size; (try simp at this); omega)); (try first | rw [H1.out])))
    refine region_tail 7 (by kernel_rfl) (by kernel_rfl) ?_
    simp only [List.take_succ_cons, List.take_zero, List.drop_succ_cons, List.drop_zero]
    repeat (refine wpStill_step (fun K hK => ?_); go_simp; first | (refine hK _ ?_; clear hK K) | (refine ⟨_, (plainD_any _ (by assumption) _).mono fun e w' h => ⟨h.1, h.2.symm⟩, hK _ ?_⟩; clear hK K))
    try refine wpStill_nil ?_
    go_wp2
    all_goals
      refine bodyPost_ret (v := .agg #[.int .u64 (readLo x y : Int), .int .u64 (readHi x y : Int)]) (by simp [results, Try.results44, go_sem, R1.out, R2.out, *]) rfl ⟨rfl, (by repeat (first | exact Below.refl _ _ | (refine Below.alloc ?_ (by first | exact Nat.le_refl _ | (simp; done) | (simp; omega)) _) | refine Below.drew ?_ | refine below_drewN ?_ _ | (refine Below.setCell ?_ (by first | exact Nat.le_refl _ | (simp; done) | (simp; omega)) _) | refine below_then ?_ (by assumption)))⟩

end Go.Proofs.Ytamaeggkpdgaiaa
