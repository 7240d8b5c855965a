/- The walks of the reference's and the program's reading and validity of binary32. -/
import Derived.Test.YtamaeggkpdgaiaaWh
namespace Go.Proofs.Ytamaeggkpdgaiaa
open Go.RowKit

/-- A word of binary32 as a reading leaves it. -/
def Canon (z : Nat) : Prop := ∃ s r, r ≤ 2139095040 ∧ z = thinOf s r ∧ wideF z = wideOf s r

theorem canon_plain {x : Nat} (hx : W32 x) (hn : nanS x = false) : Canon (plainF .f32 x) := by
  obtain ⟨r, s, h1, h2, h3, h4, h5⟩ := wide_cases hx hn
  refine ⟨s, r, h1, ?_, ?_⟩
  · rw [plainF_f32 hn h5]
    unfold thinOf
    by_cases h : r = 0
    · rw [if_pos h, if_pos h]
    · rw [if_neg h, if_neg h]
      rcases h2 with ⟨rfl, rfl⟩ | ⟨rfl, rfl⟩ <;> simp
  · rw [plainF_f32 hn h5]
    unfold wideOf
    by_cases h : r = 0
    · rw [if_pos h, if_pos h]; decide
    · rw [if_neg h, if_neg h, h3]
theorem canon_inf (s : Bool) : Canon (if s then 4286578688 else 2139095040) :=
  ⟨s, 2139095040, by omega, by cases s <;> decide, by
    have e : wideOf s 2139095040 = infD s := by
      unfold wideOf
      have hw : Fl.wideRung 2139095040 = 9218868437227405312 := (Fl.wideRung_inf (by omega)).2 rfl
      rw [if_neg (by omega), hw]; cases s <;> rfl
    rw [e]; cases s <;> decide⟩
theorem canon_lo {x y : Nat} (hx : W32 x) : Canon (readLoS x y) := by
  unfold readLoS
  cases h : soundS x y
  · exact canon_inf false
  · have hn : nanS x = false := by
      unfold soundS at h; rw [leqF_f32] at h
      revert h; cases nanS x <;> simp
    exact canon_plain hx hn
theorem canon_hi {x y : Nat} (hy : W32 y) : Canon (readHiS x y) := by
  unfold readHiS
  cases h : soundS x y
  · exact canon_inf true
  · have hn : nanS y = false := by
      unfold soundS at h; rw [leqF_f32] at h
      revert h; cases nanS x <;> cases nanS y <;> simp
    exact canon_plain hy hn

theorem thinF_any (z : Nat) (hz : Canon z) (w : World) :
    Calls Try.prog 90 #[.int .u64 (wideF z : Int)] w fun e w' => e = .returned (.int .u32 (z : Int)) ∧ w = w' := by
  obtain ⟨s, r, h1, h2, h3⟩ := hz
  rw [h3, h2]; exact thin_any s r h1 w

set_option maxRecDepth 100000 in
set_option maxHeartbeats 400000 in
theorem thin14_any (x y : Nat) (hx : Canon x) (hy : Canon y) (w : World) :
    Calls Try.prog 49 #[.agg #[.int .u64 (wideF x : Int), .int .u64 (wideF y : Int)]] w fun e w' => e = .returned (.agg #[.int .u32 (x : Int), .int .u32 (y : Int)]) ∧ Below w.heap.size w w' := by
  go_enter Try.func49, Try.ntmps49
  go_wp2
  refine region_tail 7 (by kernel_rfl) (by kernel_rfl) ?_
  simp only [List.take_succ_cons, List.take_zero, List.drop_succ_cons, List.drop_zero]
  repeat (refine wpStill_step (fun K hK => ?_); go_simp; first | (refine hK _ ?_; clear hK K) | (refine ⟨_, (thinF_any _ (by assumption) _).mono fun e w' h => ⟨h.1, h.2.symm⟩, hK _ ?_⟩; clear hK K))
  try refine wpStill_nil ?_
  go_wp2
  all_goals
    refine bodyPost_ret (v := .agg #[.int .u32 (x : Int), .int .u32 (y : Int)]) (by simp [results, Try.results49, go_sem, *]) rfl ⟨rfl, (by repeat (first | exact Below.refl _ _ | (refine Below.alloc ?_ (by first | exact Nat.le_refl _ | (simp; done) | (simp; omega)) _) | refine Below.drew ?_ | refine below_drewN ?_ _ | (refine Below.setCell ?_ (by first | exact Nat.le_refl _ | (simp; done) | (simp; omega)) _) | refine below_then ?_ (by assumption)))⟩

theorem read6_f (x y : Nat) (hx : W32 x) (hy : W32 y) (w : World) :
    Calls Try.prog 44 #[.agg #[.int .u64 (wideN x : Int), .int .u64 (wideN y : Int)]] w fun e w' => e = .returned (.agg #[.int .u64 (wideF (readLoS x y) : Int), .int .u64 (wideF (readHiS x y) : Int)]) ∧ Below w.heap.size w w' := by
  have h := readD_any (wideN x) (wideN y) (wideN_lt hx) (wideN_lt hy) w
  rw [readLo_wide hx hy, readHi_wide hx hy] at h
  exact h

set_option maxRecDepth 100000 in
set_option maxHeartbeats 400000 in
theorem read14_any (x y : Nat) (hx : W32 x) (hy : W32 y) (w : World) :
    Calls Try.prog 33 #[.agg #[.int .u32 (x : Int), .int .u32 (y : Int)]] w fun e w' => e = .returned (.agg #[.int .u32 (readLoS x y : Int), .int .u32 (readHiS x y : Int)]) ∧ Below w.heap.size w w' := by
  have hc1 := canon_lo (y := y) hx
  have hc2 := canon_hi (x := x) hy
  go_enter Try.func33, Try.ntmps33
  go_wp2_with (first
      | (go_at_call 45; refine (wideAll_any _ _ (by assumption) (by assumption) _).mono ?_; rintro e w1 ⟨rfl, hb⟩; obtain ⟨hc, hf⟩ := bcell hb; (try have hz0 : w.heap.size < w1.heap.size := (by have := hb.size; (try simp at this); omega)); (try have hz1 : w.heap.size + 1 < w1.heap.size := (by have := hb.size; (try simp at this); omega)); (try have hz2 : w.heap.size + 2 < w1.heap.size := (by have := hb.size; (try simp at this); omega)))
      | (go_at_call 44; refine (read6_f _ _ (by assumption) (by assumption) _).mono ?_; rintro e w1 ⟨rfl, hb⟩; obtain ⟨hc, hf⟩ := bcell hb; (try have hz0 : w.heap.size < w1.heap.size := (by have := hb.size; (try simp at this); omega)); (try have hz1 : w.heap.size + 1 < w1.heap.size := (by have := hb.size; (try simp at this); omega)); (try have hz2 : w.heap.size + 2 < w1.heap.size := (by have := hb.size; (try simp at this); omega)))
      | (go_at_call 49; refine (thin14_any _ _ (by assumption) (by assumption) _).mono ?_; rintro e w1 ⟨rfl, hb⟩; obtain ⟨hc, hf⟩ := bcell hb; (try have hz0 : w.heap.size < w1.heap.size := (by have := hb.size; (try simp at this); omega)); (try have hz1 : w.heap.size + 1 < w1.heap.size := (by have := hb.size; (try simp at this); omega)); (try have hz2 : w.heap.size + 2 < w1.heap.size := (by have := hb.size; (try simp at this); omega))))
  all_goals
    refine bodyPost_ret (v := .agg #[.int .u32 (readLoS x y : Int), .int .u32 (readHiS x y : Int)]) (by simp [results, Try.results33, go_sem, *]) rfl ⟨rfl, (by repeat (first | exact Below.refl _ _ | (refine Below.alloc ?_ (by first | exact Nat.le_refl _ | (simp; done) | (simp; omega)) _) | refine Below.drew ?_ | refine below_drewN ?_ _ | (refine Below.setCell ?_ (by first | exact Nat.le_refl _ | (simp; done) | (simp; omega)) _) | refine below_then ?_ (by assumption)))⟩

set_option maxRecDepth 100000 in
set_option maxHeartbeats 400000 in
theorem valid14_aux (x y a b : Nat) (hR : ∀ w, Calls Try.prog 33 #[.agg #[.int .u32 (x : Int), .int .u32 (y : Int)]] w fun e w' => e = .returned (.agg #[.int .u32 (a : Int), .int .u32 (b : Int)]) ∧ Below w.heap.size w w') (w : World) :
    Calls Try.prog 35 #[.agg #[.int .u32 (x : Int), .int .u32 (y : Int)]] w fun e w' => e = .returned (.bool (((x : Int) == (a : Int)) && ((y : Int) == (b : Int)))) ∧ Below w.heap.size w w' := by
  by_cases h : x = a
  · subst h
    by_cases h2 : y = b
    · subst h2
      go_enter Try.func35, Try.ntmps35
      go_wp2
      refine region_quiet (by kernel_rfl) (by kernel_rfl) ?_
      repeat (refine wpQuiet_step (fun K hK => ?_); go_simp; first | (refine hK _ ?_; clear hK K) | (apply Exists.intro; refine ⟨fun _ => ?_, hK _ ?_⟩; ((with_reducible exact qcall (hR _))); clear hK K))
      refine wpQuiet_nil ?_
      intro w1 hb; obtain ⟨hc, hf⟩ := bcell hb; (try have hz0 : w.heap.size < w1.heap.size := (by have := hb.size; (try simp at this); omega)); (try have hz1 : w.heap.size + 1 < w1.heap.size := (by have := hb.size; (try simp at this); omega)); (try have hz2 : w.heap.size + 2 < w1.heap.size := (by have := hb.size; (try simp at this); omega))
      go_wp2
      go_ret
      exact ⟨ret_bool (by simp), (by repeat (first | exact Below.refl _ _ | (refine Below.alloc ?_ (by first | exact Nat.le_refl _ | (simp; done) | (simp; omega)) _) | refine Below.drew ?_ | refine below_drewN ?_ _ | (refine Below.setCell ?_ (by first | exact Nat.le_refl _ | (simp; done) | (simp; omega)) _) | refine below_then ?_ (by assumption)))⟩
    · have hg : ((y : Int) == (b : Int)) = false := by rw [beq_eq_false_iff_ne]; omega
      have Hg := Lib.hid h2; clear h2
      go_enter Try.func35, Try.ntmps35
      go_wp2
      refine region_quiet (by kernel_rfl) (by kernel_rfl) ?_
      repeat (refine wpQuiet_step (fun K hK => ?_); go_simp; first | (refine hK _ ?_; clear hK K) | (apply Exists.intro; refine ⟨fun _ => ?_, hK _ ?_⟩; ((with_reducible exact qcall (hR _))); clear hK K))
      refine wpQuiet_nil ?_
      intro w1 hb; obtain ⟨hc, hf⟩ := bcell hb; (try have hz0 : w.heap.size < w1.heap.size := (by have := hb.size; (try simp at this); omega)); (try have hz1 : w.heap.size + 1 < w1.heap.size := (by have := hb.size; (try simp at this); omega)); (try have hz2 : w.heap.size + 2 < w1.heap.size := (by have := hb.size; (try simp at this); omega))
      go_wp2
      go_ret
      exact ⟨ret_bool (by rw [hg]; simp), (by repeat (first | exact Below.refl _ _ | (refine Below.alloc ?_ (by first | exact Nat.le_refl _ | (simp; done) | (simp; omega)) _) | refine Below.drew ?_ | refine below_drewN ?_ _ | (refine Below.setCell ?_ (by first | exact Nat.le_refl _ | (simp; done) | (simp; omega)) _) | refine below_then ?_ (by assumption)))⟩
  · have hxa : ((x : Int) == (a : Int)) = false := by rw [beq_eq_false_iff_ne]; omega
    clear h
    go_enter Try.func35, Try.ntmps35
    go_wp2
    refine region_quiet (by kernel_rfl) (by kernel_rfl) ?_
    repeat (refine wpQuiet_step (fun K hK => ?_); go_simp; first | (refine hK _ ?_; clear hK K) | (apply Exists.intro; refine ⟨fun _ => ?_, hK _ ?_⟩; ((with_reducible exact qcall (hR _))); clear hK K))
    refine wpQuiet_nil ?_
    intro w1 hb; obtain ⟨hc, hf⟩ := bcell hb; (try have hz0 : w.heap.size < w1.heap.size := (by have := hb.size; (try simp at this); omega)); (try have hz1 : w.heap.size + 1 < w1.heap.size := (by have := hb.size; (try simp at this); omega)); (try have hz2 : w.heap.size + 2 < w1.heap.size := (by have := hb.size; (try simp at this); omega))
    go_wp2
    go_ret
    exact ⟨ret_bool (by rw [hxa]; rfl), (by repeat (first | exact Below.refl _ _ | (refine Below.alloc ?_ (by first | exact Nat.le_refl _ | (simp; done) | (simp; omega)) _) | refine Below.drew ?_ | refine below_drewN ?_ _ | (refine Below.setCell ?_ (by first | exact Nat.le_refl _ | (simp; done) | (simp; omega)) _) | refine below_then ?_ (by assumption)))⟩

theorem valid14_any (x y : Nat) (hx : W32 x) (hy : W32 y) (w : World) :
    Calls Try.prog 35 #[.agg #[.int .u32 (x : Int), .int .u32 (y : Int)]] w fun e w' => e = .returned (.bool (((x : Int) == (readLoS x y : Int)) && ((y : Int) == (readHiS x y : Int)))) ∧ Below w.heap.size w w' :=
  valid14_aux x y _ _ (read14_any x y hx hy) w

set_option maxRecDepth 100000 in
set_option maxHeartbeats 400000 in
theorem small32_any (w : World) :
    Calls Try.prog 153 #[] w fun e w' => e = .returned (.bool true) ∧ w = w' := by
  have c1 : ∀ w : World, (convert 3 33 (.int .i64 16777216)).run Try.prog w = .ok (.float .f32 1266679808) w := fun _ => by kernel_rfl
  have c2 : ∀ w : World, (binOp .add 33 (.float .f32 1266679808) (.float .f32 1065353216)).run Try.prog w = .ok (.float .f32 1266679808) w := fun _ => by kernel_rfl
  have c3 : ∀ w : World, (binOp .eql 33 (.float .f32 1266679808) (.float .f32 1266679808)).run Try.prog w = .ok (.bool true) w := fun _ => by kernel_rfl
  go_enter Try.func153, Try.ntmps153
  go_wp2
  go_ret
  exact ⟨rfl, rfl⟩

set_option maxRecDepth 100000 in
set_option maxHeartbeats 400000 in
theorem pattern32_any (x : Nat) (hx : W32 x) (w : World) :
    Calls Try.prog 134 #[.float .f32 x] w fun e w' => e = .returned (.int .u64 (x : Int)) ∧ w = w' := by
  have hb : (x : Int) < 4294967296 := by unfold W32 at hx; omega
  go_enter Try.func134, Try.ntmps134
  go_wp2_with ((go_at_call 153; refine (small32_any _).mono ?_; rintro e w' ⟨rfl, rfl⟩))
  all_goals
    go_ret
    exact ⟨ret_int (by first | rfl | (simp []; done)), rfl⟩

set_option maxRecDepth 100000 in
set_option maxHeartbeats 400000 in
theorem format32_any  (w : World) :
    Calls Try.prog 133 #[] w fun e w' => e = .returned (.agg #[.int .i64 23, .int .i64 (-149), .int .i64 104, .int .u64 2139095040, .int .u64 2147483648]) ∧ Below w.heap.size w w' := by
  go_enter Try.func133, Try.ntmps133
  go_wp2_with ((go_at_call 153; refine (small32_any _).mono ?_; rintro e w' ⟨rfl, rfl⟩))
  all_goals
    refine bodyPost_ret (v := .agg #[.int .i64 23, .int .i64 (-149), .int .i64 104, .int .u64 2139095040, .int .u64 2147483648]) (by simp [results, Try.results133, go_sem, *]) rfl ⟨rfl, (by repeat (first | exact Below.refl _ _ | (refine Below.alloc ?_ (by first | exact Nat.le_refl _ | (simp; done) | (simp; omega)) _) | refine Below.drew ?_ | refine below_drewN ?_ _ | (refine Below.setCell ?_ (by first | exact Nat.le_refl _ | (simp; done) | (simp; omega)) _) | refine below_then ?_ (by assumption)))⟩

end Go.Proofs.Ytamaeggkpdgaiaa
