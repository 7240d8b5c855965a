/- The walks of vergeref14.Meet, vergeref14.Join, vergelaw14.of. -/
import Derived.Test.YtamaeggkpdgaiaaHp
namespace Go.Proofs.Ytamaeggkpdgaiaa
open Go.RowKit

set_option maxRecDepth 100000 in
set_option maxHeartbeats 1000000 in
theorem meet14_walk (x y u v a b c d e f p q : Nat)
    (A1 : Hid (∀ w : World, Calls Try.prog 45 #[.agg #[.int .u32 (x : Int), .int .u32 (y : Int)]] w fun e' w' => e' = .returned (.agg #[.int .u64 (a : Int), .int .u64 (b : Int)]) ∧ Below w.heap.size w w'))
    (A2 : Hid (∀ w : World, Calls Try.prog 45 #[.agg #[.int .u32 (u : Int), .int .u32 (v : Int)]] w fun e' w' => e' = .returned (.agg #[.int .u64 (c : Int), .int .u64 (d : Int)]) ∧ Below w.heap.size w w'))
    (A3 : Hid (∀ w : World, Calls Try.prog 24 #[.agg #[.int .u64 (a : Int), .int .u64 (b : Int)], .agg #[.int .u64 (c : Int), .int .u64 (d : Int)]] w fun e' w' => e' = .returned (.agg #[.int .u64 (e : Int), .int .u64 (f : Int)]) ∧ Below w.heap.size w w'))
    (A4 : Hid (∀ w : World, Calls Try.prog 49 #[.agg #[.int .u64 (e : Int), .int .u64 (f : Int)]] w fun e' w' => e' = .returned (.agg #[.int .u32 (p : Int), .int .u32 (q : Int)]) ∧ Below w.heap.size w w')) (w : World) :
    Calls Try.prog 15 #[.agg #[.int .u32 (x : Int), .int .u32 (y : Int)], .agg #[.int .u32 (u : Int), .int .u32 (v : Int)]] w
      fun e' w' => e' = .returned (.agg #[.int .u32 (p : Int), .int .u32 (q : Int)]) ∧ Below w.heap.size w w' := by
  have KR : Hid (∀ w', Below (w.heap.size + 3) (((w.alloc (.cells #[.int .u32 (x : Int), .int .u32 (y : Int)] 24)).alloc (.cells #[.int .u32 (u : Int), .int .u32 (v : Int)] 24)).alloc (.cells #[.int .u32 0, .int .u32 0] 24)) w' → (Below w.heap.size w w' ∧ w'.cell? ⟨w.heap.size + 1 + 1, 0, none⟩ = some (.int .u32 0) ∧ w'.cell? ⟨w.heap.size + 1 + 1, 1, none⟩ = some (.int .u32 0) ∧ w'.frozen? ⟨w.heap.size + 1 + 1, 0, none⟩ = false ∧ w'.frozen? ⟨w.heap.size + 1 + 1, 1, none⟩ = false)) :=
    Lib.hid (fun w' h => ⟨(below3 _ _ _ _).trans (h.mono (by omega)), (h.cell (p := ⟨w.heap.size + 1 + 1, 0, none⟩) (by simp; try omega)).trans (by simp [go_sem]), (h.cell (p := ⟨w.heap.size + 1 + 1, 1, none⟩) (by simp; try omega)).trans (by simp [go_sem]), (h.frozen (p := ⟨w.heap.size + 1 + 1, 0, none⟩) (by simp; try omega)).trans (by simp [go_sem]), (h.frozen (p := ⟨w.heap.size + 1 + 1, 1, none⟩) (by simp; try omega)).trans (by simp [go_sem])⟩)
  go_enter Try.func15, Try.ntmps15
  go_wp2_with fail
  refine region_qtail 6 (by kernel_rfl) (by kernel_rfl) ?_
  simp only [List.take_succ_cons, List.take_zero, List.drop_succ_cons, List.drop_zero]
  repeat (refine wpQuiet_step (fun K hK => ?_); go_simp; first | (refine hK _ ?_; clear hK K) | (apply Exists.intro; refine ⟨fun _ => ?_, hK _ ?_⟩; (first | (with_reducible exact qcall (A1.out _)) | (with_reducible exact qcall (A2.out _)) | (with_reducible exact qcall (A3.out _)) | (with_reducible exact qcall (A4.out _))); clear hK K))
  refine wpQuiet_nil ?_
  intro w1 hb1
  have hs1 : w.heap.size + 3 ≤ w1.heap.size := by have := hb1.size; simpa using this
  obtain ⟨hB, k0, k1, f0, f1⟩ := KR.out w1 (hb1.mono (by simp))
  have HBE := Lib.hid hB; clear hB hb1
  have hz : w.heap.size + 1 + 1 < w1.heap.size := by omega
  go_wp2
  all_goals
    refine bodyPost_ret (v := .agg #[.int .u32 (p : Int), .int .u32 (q : Int)]) (by simp [results, Try.results15, go_sem, *]) rfl ⟨rfl, ?_⟩
    repeat (first | ((with_reducible refine Below.setCell ?_ ?_ _); rotate_left; focus (first | omega | (simp; done) | (simp; omega))) | (with_reducible refine Below.drew ?_))
    exact HBE.out

set_option maxRecDepth 100000 in
set_option maxHeartbeats 1000000 in
theorem join14_walk (x y u v a b c d e f p q : Nat)
    (A1 : Hid (∀ w : World, Calls Try.prog 45 #[.agg #[.int .u32 (x : Int), .int .u32 (y : Int)]] w fun e' w' => e' = .returned (.agg #[.int .u64 (a : Int), .int .u64 (b : Int)]) ∧ Below w.heap.size w w'))
    (A2 : Hid (∀ w : World, Calls Try.prog 45 #[.agg #[.int .u32 (u : Int), .int .u32 (v : Int)]] w fun e' w' => e' = .returned (.agg #[.int .u64 (c : Int), .int .u64 (d : Int)]) ∧ Below w.heap.size w w'))
    (A3 : Hid (∀ w : World, Calls Try.prog 25 #[.agg #[.int .u64 (a : Int), .int .u64 (b : Int)], .agg #[.int .u64 (c : Int), .int .u64 (d : Int)]] w fun e' w' => e' = .returned (.agg #[.int .u64 (e : Int), .int .u64 (f : Int)]) ∧ Below w.heap.size w w'))
    (A4 : Hid (∀ w : World, Calls Try.prog 49 #[.agg #[.int .u64 (e : Int), .int .u64 (f : Int)]] w fun e' w' => e' = .returned (.agg #[.int .u32 (p : Int), .int .u32 (q : Int)]) ∧ Below w.heap.size w w')) (w : World) :
    Calls Try.prog 17 #[.agg #[.int .u32 (x : Int), .int .u32 (y : Int)], .agg #[.int .u32 (u : Int), .int .u32 (v : Int)]] w
      fun e' w' => e' = .returned (.agg #[.int .u32 (p : Int), .int .u32 (q : Int)]) ∧ Below w.heap.size w w' := by
  have KR : Hid (∀ w', Below (w.heap.size + 3) (((w.alloc (.cells #[.int .u32 (x : Int), .int .u32 (y : Int)] 24)).alloc (.cells #[.int .u32 (u : Int), .int .u32 (v : Int)] 24)).alloc (.cells #[.int .u32 0, .int .u32 0] 24)) w' → (Below w.heap.size w w' ∧ w'.cell? ⟨w.heap.size + 1 + 1, 0, none⟩ = some (.int .u32 0) ∧ w'.cell? ⟨w.heap.size + 1 + 1, 1, none⟩ = some (.int .u32 0) ∧ w'.frozen? ⟨w.heap.size + 1 + 1, 0, none⟩ = false ∧ w'.frozen? ⟨w.heap.size + 1 + 1, 1, none⟩ = false)) :=
    Lib.hid (fun w' h => ⟨(below3 _ _ _ _).trans (h.mono (by omega)), (h.cell (p := ⟨w.heap.size + 1 + 1, 0, none⟩) (by simp; try omega)).trans (by simp [go_sem]), (h.cell (p := ⟨w.heap.size + 1 + 1, 1, none⟩) (by simp; try omega)).trans (by simp [go_sem]), (h.frozen (p := ⟨w.heap.size + 1 + 1, 0, none⟩) (by simp; try omega)).trans (by simp [go_sem]), (h.frozen (p := ⟨w.heap.size + 1 + 1, 1, none⟩) (by simp; try omega)).trans (by simp [go_sem])⟩)
  go_enter Try.func17, Try.ntmps17
  go_wp2_with fail
  refine region_qtail 6 (by kernel_rfl) (by kernel_rfl) ?_
  simp only [List.take_succ_cons, List.take_zero, List.drop_succ_cons, List.drop_zero]
  repeat (refine wpQuiet_step (fun K hK => ?_); go_simp; first | (refine hK _ ?_; clear hK K) | (apply Exists.intro; refine ⟨fun _ => ?_, hK _ ?_⟩; (first | (with_reducible exact qcall (A1.out _)) | (with_reducible exact qcall (A2.out _)) | (with_reducible exact qcall (A3.out _)) | (with_reducible exact qcall (A4.out _))); clear hK K))
  refine wpQuiet_nil ?_
  intro w1 hb1
  have hs1 : w.heap.size + 3 ≤ w1.heap.size := by have := hb1.size; simpa using this
  obtain ⟨hB, k0, k1, f0, f1⟩ := KR.out w1 (hb1.mono (by simp))
  have HBE := Lib.hid hB; clear hB hb1
  have hz : w.heap.size + 1 + 1 < w1.heap.size := by omega
  go_wp2
  all_goals
    refine bodyPost_ret (v := .agg #[.int .u32 (p : Int), .int .u32 (q : Int)]) (by simp [results, Try.results17, go_sem, *]) rfl ⟨rfl, ?_⟩
    repeat (first | ((with_reducible refine Below.setCell ?_ ?_ _); rotate_left; focus (first | omega | (simp; done) | (simp; omega))) | (with_reducible refine Below.drew ?_))
    exact HBE.out

theorem meet14_any (x y u v : Nat) (hx : W32 x) (hy : W32 y) (hu : W32 u) (hv : W32 v) (w : World) :
    Calls Try.prog 15 #[.agg #[.int .u32 (x : Int), .int .u32 (y : Int)], .agg #[.int .u32 (u : Int), .int .u32 (v : Int)]] w
      fun e w' => e = .returned (.agg #[.int .u32 (meetLoS (readLoS x y) (readHiS x y) (readLoS u v) (readHiS u v) : Int), .int .u32 (meetHiS (readLoS x y) (readHiS x y) (readLoS u v) (readHiS u v) : Int)]) ∧ Below w.heap.size w w' := by
  have ca := canon_lo (y := y) hx; have cb := canon_hi (x := x) hy; have cc := canon_lo (y := v) hu; have cd := canon_hi (x := u) hv
  obtain ⟨⟨m1, m2⟩, m3, m4⟩ := meetS ca cb cc cd
  have I := fun w => intersect_any (wideN x) (wideN y) (wideN u) (wideN v) (wideN_lt hx) (wideN_lt hy) (wideN_lt hu) (wideN_lt hv) w
  rw [readLo_wide hx hy, readHi_wide hx hy, readLo_wide hu hv, readHi_wide hu hv, ← m3, ← m4] at I
  exact meet14_walk x y u v _ _ _ _ _ _ _ _ (Lib.hid (fun w => wideAll_any x y hx hy w)) (Lib.hid (fun w => wideAll_any u v hu hv w)) (Lib.hid I) (Lib.hid (fun w => thin14_any _ _ m1 m2 w)) w
theorem join14_any (x y u v : Nat) (hx : W32 x) (hy : W32 y) (hu : W32 u) (hv : W32 v) (w : World) :
    Calls Try.prog 17 #[.agg #[.int .u32 (x : Int), .int .u32 (y : Int)], .agg #[.int .u32 (u : Int), .int .u32 (v : Int)]] w
      fun e w' => e = .returned (.agg #[.int .u32 (minF .f32 (readLoS x y) (readLoS u v) : Int), .int .u32 (maxF .f32 (readHiS x y) (readHiS u v) : Int)]) ∧ Below w.heap.size w w' := by
  have ca := canon_lo (y := y) hx; have cb := canon_hi (x := x) hy; have cc := canon_lo (y := v) hu; have cd := canon_hi (x := u) hv
  obtain ⟨m1, m3⟩ := canon_min ca cc
  obtain ⟨m2, m4⟩ := canon_max cb cd
  have I := fun w => hull9_any (wideN x) (wideN y) (wideN u) (wideN v) (wideN_lt hx) (wideN_lt hy) (wideN_lt hu) (wideN_lt hv) w
  rw [readLo_wide hx hy, readHi_wide hx hy, readLo_wide hu hv, readHi_wide hu hv, ← m3, ← m4] at I
  exact join14_walk x y u v _ _ _ _ _ _ _ _ (Lib.hid (fun w => wideAll_any x y hx hy w)) (Lib.hid (fun w => wideAll_any u v hu hv w)) (Lib.hid I) (Lib.hid (fun w => thin14_any _ _ m1 m2 w)) w

set_option maxRecDepth 100000 in
set_option maxHeartbeats 400000 in
theorem of14_any (x y : Nat) (w : World) :
    Calls Try.prog 20 #[.float .f32 x, .float .f32 y] w fun e w' => e = .returned (.agg #[.float .f32 x, .float .f32 y]) ∧ Below w.heap.size w w' := by
  go_enter Try.func20, Try.ntmps20
  go_wp2
  all_goals
    refine bodyPost_ret (v := .agg #[.float .f32 x, .float .f32 y]) (by simp [results, Try.results20, go_sem, *]) rfl ⟨rfl, ?_⟩
    repeat (first | ((with_reducible refine Below.setCell ?_ ?_ _); rotate_left; focus (first | omega | (simp; done) | (simp; omega))) | (with_reducible refine Below.drew ?_) | ((with_reducible refine Below.alloc ?_ ?_ _); rotate_left; focus (first | omega | (simp; done) | (simp; omega))))
    exact Below.refl _ _

end Go.Proofs.Ytamaeggkpdgaiaa
