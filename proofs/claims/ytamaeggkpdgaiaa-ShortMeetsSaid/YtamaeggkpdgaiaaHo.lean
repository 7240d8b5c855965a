/- The walks of short.Meet and short.Join, of all the types of pairs that the law names. -/
import Derived.Test.YtamaeggkpdgaiaaWz
import Derived.Test.YtamaeggkpdgaiaaHn
namespace Go.Proofs.Ytamaeggkpdgaiaa
open Go.RowKit

/-- The greater and the lesser of two floats, as Go's max and min tell it. -/
def maxF (k : FloatKind) (x y : Nat) : Nat := match k.format.order x y with | none => 0 | some .lt => y | some .gt => x | some .eq => if (k.decode x).neg then y else x
def minF (k : FloatKind) (x y : Nat) : Nat := match k.format.order x y with | none => 0 | some .lt => x | some .gt => y | some .eq => if (k.decode x).neg then x else y
theorem run_max_float2 {P : Program} {w : World} (ts : Array TypeId) (t : TypeId) (k : FloatKind) (x y : Nat) (h : (k.format.order x y).isSome = true) : (Builtin.max_ ts t #[.float k x, .float k y]).run P w = .ok (.float k (maxF k x y)) w := by
  unfold maxF
  cases ho : k.format.order x y with
  | none => rw [ho] at h; exact absurd h (by decide)
  | some o => cases o <;> simp [Builtin.max_, Builtin.max2, ho]
theorem run_min_float2 {P : Program} {w : World} (ts : Array TypeId) (t : TypeId) (k : FloatKind) (x y : Nat) (h : (k.format.order x y).isSome = true) : (Builtin.min_ ts t #[.float k x, .float k y]).run P w = .ok (.float k (minF k x y)) w := by
  unfold minF
  cases ho : k.format.order x y with
  | none => rw [ho] at h; exact absurd h (by decide)
  | some o => cases o <;> simp [Builtin.min_, Builtin.min2, ho]

set_option maxRecDepth 100000 in
set_option maxHeartbeats 1000000 in
theorem meet32_walk (x y u v a b c d p q : Nat) (t : Bool) (lo hi : Nat) (h1 : t = true → lo = 2139095040 ∧ hi = 4286578688) (h2 : t = false → lo = p ∧ hi = q)
    (R1 : Hid (∀ w : World, Calls Try.prog 47 #[.agg #[.float .f32 x, .float .f32 y]] w fun e w' => e = .returned (.agg #[.float .f32 a, .float .f32 b]) ∧ Below w.heap.size w w'))
    (R2 : Hid (∀ w : World, Calls Try.prog 47 #[.agg #[.float .f32 u, .float .f32 v]] w fun e w' => e = .returned (.agg #[.float .f32 c, .float .f32 d]) ∧ Below w.heap.size w w'))
    (hm : ∀ (ts : Array TypeId) (t : TypeId) (w : World), (Builtin.max_ ts t #[.float .f32 a, .float .f32 c]).run Try.prog w = .ok (.float .f32 p) w)
    (hn : ∀ (ts : Array TypeId) (t : TypeId) (w : World), (Builtin.min_ ts t #[.float .f32 b, .float .f32 d]).run Try.prog w = .ok (.float .f32 q) w)
    (ht : (FloatKind.f32.format.order p q == some .gt) = t) (w : World) :
    Calls Try.prog 14 #[.agg #[.float .f32 x, .float .f32 y], .agg #[.float .f32 u, .float .f32 v]] w
      fun e w' => e = .returned (.agg #[.float .f32 lo, .float .f32 hi]) ∧ Below w.heap.size w w' := by
  have KS : Hid (∀ w', Below (w.heap.size + 3) (((w.alloc (.cells #[.float .f32 x, .float .f32 y] 39)).alloc (.cells #[.float .f32 u, .float .f32 v] 39)).alloc (.cells #[.float .f32 0, .float .f32 0] 39)) w' → (Below w.heap.size w w' ∧ w'.cell? ⟨w.heap.size, 0, none⟩ = some (.float .f32 x) ∧ w'.frozen? ⟨w.heap.size, 0, none⟩ = false ∧ w'.cell? ⟨w.heap.size, 1, none⟩ = some (.float .f32 y) ∧ w'.frozen? ⟨w.heap.size, 1, none⟩ = false ∧ w'.cell? ⟨w.heap.size + 1, 0, none⟩ = some (.float .f32 u) ∧ w'.frozen? ⟨w.heap.size + 1, 0, none⟩ = false ∧ w'.cell? ⟨w.heap.size + 1, 1, none⟩ = some (.float .f32 v) ∧ w'.frozen? ⟨w.heap.size + 1, 1, none⟩ = false ∧ w'.cell? ⟨w.heap.size + 1 + 1, 0, none⟩ = some (.float .f32 0) ∧ w'.frozen? ⟨w.heap.size + 1 + 1, 0, none⟩ = false ∧ w'.cell? ⟨w.heap.size + 1 + 1, 1, none⟩ = some (.float .f32 0) ∧ w'.frozen? ⟨w.heap.size + 1 + 1, 1, none⟩ = false)) :=
    Lib.hid (fun w' h => ⟨(below3 _ _ _ _).trans (h.mono (by omega)), (h.cell (p := ⟨w.heap.size, 0, none⟩) (by simp; try omega)).trans (by simp [go_sem]), (h.frozen (p := ⟨w.heap.size, 0, none⟩) (by simp; try omega)).trans (by simp [go_sem]), (h.cell (p := ⟨w.heap.size, 1, none⟩) (by simp; try omega)).trans (by simp [go_sem]), (h.frozen (p := ⟨w.heap.size, 1, none⟩) (by simp; try omega)).trans (by simp [go_sem]), (h.cell (p := ⟨w.heap.size + 1, 0, none⟩) (by simp; try omega)).trans (by simp [go_sem]), (h.frozen (p := ⟨w.heap.size + 1, 0, none⟩) (by simp; try omega)).trans (by simp [go_sem]), (h.cell (p := ⟨w.heap.size + 1, 1, none⟩) (by simp; try omega)).trans (by simp [go_sem]), (h.frozen (p := ⟨w.heap.size + 1, 1, none⟩) (by simp; try omega)).trans (by simp [go_sem]), (h.cell (p := ⟨w.heap.size + 1 + 1, 0, none⟩) (by simp; try omega)).trans (by simp [go_sem]), (h.frozen (p := ⟨w.heap.size + 1 + 1, 0, none⟩) (by simp; try omega)).trans (by simp [go_sem]), (h.cell (p := ⟨w.heap.size + 1 + 1, 1, none⟩) (by simp; try omega)).trans (by simp [go_sem]), (h.frozen (p := ⟨w.heap.size + 1 + 1, 1, none⟩) (by simp; try omega)).trans (by simp [go_sem])⟩)
  go_enter Try.func14, Try.ntmps14
  go_wp2_with fail
  obtain ⟨W0, hW0⟩ : ∃ W0 : World, W0 = (((w.alloc (.cells #[.float .f32 x, .float .f32 y] 39)).alloc (.cells #[.float .f32 u, .float .f32 v] 39)).alloc (.cells #[.float .f32 0, .float .f32 0] 39)) := ⟨_, rfl⟩
  have HSz : Hid (W0.heap.size = w.heap.size + 3) := Lib.hid (by rw [hW0]; simp)
  rw [← hW0] at KS ⊢
  clear hW0
  have hz9 : w.heap.size + 1 + 1 < W0.heap.size := by rw [HSz.out]; omega
  have hz8 : w.heap.size + 1 < W0.heap.size := by rw [HSz.out]; omega
  have hz7 : w.heap.size < W0.heap.size := by rw [HSz.out]; omega
  obtain ⟨-, k0, -, k1, -, k2, -, k3, -, -⟩ := KS.out W0 (Below.refl _ _)
  refine region_qtail 4 (by kernel_rfl) (by kernel_rfl) ?_
  simp only [List.take_succ_cons, List.take_zero, List.drop_succ_cons, List.drop_zero]
  repeat (refine wpQuiet_step (fun K hK => ?_); go_simp; first | (refine hK _ ?_; clear hK K) | (apply Exists.intro; refine ⟨fun _ => ?_, hK _ ?_⟩; (first | (with_reducible exact qcall (R1.out _)) | (with_reducible exact qcall (R2.out _))); clear hK K))
  refine wpQuiet_nil ?_
  intro w1 hb1
  have HZ1 : Hid (Below (w.heap.size + 3) W0 w1) := Lib.hid (hb1.mono (by rw [HSz.out]; exact Nat.le_refl _)); clear hb1 k0 k1 k2 k3 hz9 hz8 hz7
  obtain ⟨hB, k0, f0, k1, f1, k2, f2, k3, f3, k4, f4, k5, f5⟩ := KS.out w1 HZ1.out
  have HBE := Lib.hid hB; clear hB
  have hs1 : w.heap.size + 3 ≤ w1.heap.size := by have := HZ1.out.size; rw [HSz.out] at this; exact this
  have hz9 : w.heap.size + 1 + 1 < w1.heap.size := by omega
  have hz8 : w.heap.size + 1 < w1.heap.size := by omega
  have hz7 : w.heap.size < w1.heap.size := by omega
  have hne : w1.heap.size ≠ w.heap.size + 1 + 1 := by omega
  have hne2 : w1.heap.size ≠ w.heap.size + 1 := by omega
  have hne3 : w1.heap.size ≠ w.heap.size := by omega
  cases t
  case false =>
    obtain ⟨rfl, rfl⟩ := h2 rfl
    clear h1 h2
    go_wp2
    all_goals
      refine bodyPost_ret (v := .agg #[.float .f32 lo, .float .f32 hi]) (by simp [results, Try.results14, go_sem, *]) rfl ⟨rfl, ?_⟩
      repeat (first | ((with_reducible refine Below.setCell ?_ ?_ _); rotate_left; focus (first | omega | (simp; done) | (simp; omega))) | (with_reducible refine Below.drew ?_) | ((with_reducible refine Below.alloc ?_ ?_ _); rotate_left; focus (first | omega | (simp; done) | (simp; omega))))
      exact HBE.out
  case true =>
    obtain ⟨rfl, rfl⟩ := h1 rfl
    clear h1 h2
    go_wp2_with fail
    refine (none32_any _).mono ?_
    rintro e2 w2 ⟨rfl, hb2⟩
    obtain ⟨hc2, hf2⟩ := bcell hb2
    have hs2 := hb2.size
    simp [World.setCell] at hs2
    have hzz : w.heap.size + 1 + 1 < w2.heap.size := by omega
    have HB2 : Hid (Below w.heap.size w w2) := Lib.hid (by
      refine below_then ?_ hb2
      repeat (first | ((with_reducible refine Below.setCell ?_ ?_ _); rotate_left; focus (first | omega | (simp; done) | (simp; omega))) | (with_reducible refine Below.drew ?_) | ((with_reducible refine Below.alloc ?_ ?_ _); rotate_left; focus (first | omega | (simp; done) | (simp; omega))))
      exact HBE.out)
    clear hb2
    go_wp2
    all_goals
      refine bodyPost_ret (v := .agg #[.float .f32 2139095040, .float .f32 4286578688]) (by simp [results, Try.results14, go_sem, *]) rfl ⟨rfl, ?_⟩
      repeat (first | ((with_reducible refine Below.setCell ?_ ?_ _); rotate_left; focus (first | omega | (simp; done) | (simp; omega))) | (with_reducible refine Below.drew ?_) | ((with_reducible refine Below.alloc ?_ ?_ _); rotate_left; focus (first | omega | (simp; done) | (simp; omega))))
      exact HB2.out

set_option maxRecDepth 100000 in
set_option maxHeartbeats 1000000 in
theorem join32_walk (x y u v a b c d p q : Nat)
    (R1 : Hid (∀ w : World, Calls Try.prog 47 #[.agg #[.float .f32 x, .float .f32 y]] w fun e w' => e = .returned (.agg #[.float .f32 a, .float .f32 b]) ∧ Below w.heap.size w w'))
    (R2 : Hid (∀ w : World, Calls Try.prog 47 #[.agg #[.float .f32 u, .float .f32 v]] w fun e w' => e = .returned (.agg #[.float .f32 c, .float .f32 d]) ∧ Below w.heap.size w w'))
    (hm : ∀ (ts : Array TypeId) (t : TypeId) (w : World), (Builtin.min_ ts t #[.float .f32 a, .float .f32 c]).run Try.prog w = .ok (.float .f32 p) w)
    (hn : ∀ (ts : Array TypeId) (t : TypeId) (w : World), (Builtin.max_ ts t #[.float .f32 b, .float .f32 d]).run Try.prog w = .ok (.float .f32 q) w) (w : World) :
    Calls Try.prog 16 #[.agg #[.float .f32 x, .float .f32 y], .agg #[.float .f32 u, .float .f32 v]] w
      fun e w' => e = .returned (.agg #[.float .f32 p, .float .f32 q]) ∧ Below w.heap.size w w' := by
  have KS : Hid (∀ w', Below (w.heap.size + 3) (((w.alloc (.cells #[.float .f32 x, .float .f32 y] 39)).alloc (.cells #[.float .f32 u, .float .f32 v] 39)).alloc (.cells #[.float .f32 0, .float .f32 0] 39)) w' → (Below w.heap.size w w' ∧ w'.cell? ⟨w.heap.size, 0, none⟩ = some (.float .f32 x) ∧ w'.frozen? ⟨w.heap.size, 0, none⟩ = false ∧ w'.cell? ⟨w.heap.size, 1, none⟩ = some (.float .f32 y) ∧ w'.frozen? ⟨w.heap.size, 1, none⟩ = false ∧ w'.cell? ⟨w.heap.size + 1, 0, none⟩ = some (.float .f32 u) ∧ w'.frozen? ⟨w.heap.size + 1, 0, none⟩ = false ∧ w'.cell? ⟨w.heap.size + 1, 1, none⟩ = some (.float .f32 v) ∧ w'.frozen? ⟨w.heap.size + 1, 1, none⟩ = false ∧ w'.cell? ⟨w.heap.size + 1 + 1, 0, none⟩ = some (.float .f32 0) ∧ w'.frozen? ⟨w.heap.size + 1 + 1, 0, none⟩ = false ∧ w'.cell? ⟨w.heap.size + 1 + 1, 1, none⟩ = some (.float .f32 0) ∧ w'.frozen? ⟨w.heap.size + 1 + 1, 1, none⟩ = false)) :=
    Lib.hid (fun w' h => ⟨(below3 _ _ _ _).trans (h.mono (by omega)), (h.cell (p := ⟨w.heap.size, 0, none⟩) (by simp; try omega)).trans (by simp [go_sem]), (h.frozen (p := ⟨w.heap.size, 0, none⟩) (by simp; try omega)).trans (by simp [go_sem]), (h.cell (p := ⟨w.heap.size, 1, none⟩) (by simp; try omega)).trans (by simp [go_sem]), (h.frozen (p := ⟨w.heap.size, 1, none⟩) (by simp; try omega)).trans (by simp [go_sem]), (h.cell (p := ⟨w.heap.size + 1, 0, none⟩) (by simp; try omega)).trans (by simp [go_sem]), (h.frozen (p := ⟨w.heap.size + 1, 0, none⟩) (by simp; try omega)).trans (by simp [go_sem]), (h.cell (p := ⟨w.heap.size + 1, 1, none⟩) (by simp; try omega)).trans (by simp [go_sem]), (h.frozen (p := ⟨w.heap.size + 1, 1, none⟩) (by simp; try omega)).trans (by simp [go_sem]), (h.cell (p := ⟨w.heap.size + 1 + 1, 0, none⟩) (by simp; try omega)).trans (by simp [go_sem]), (h.frozen (p := ⟨w.heap.size + 1 + 1, 0, none⟩) (by simp; try omega)).trans (by simp [go_sem]), (h.cell (p := ⟨w.heap.size + 1 + 1, 1, none⟩) (by simp; try omega)).trans (by simp [go_sem]), (h.frozen (p := ⟨w.heap.size + 1 + 1, 1, none⟩) (by simp; try omega)).trans (by simp [go_sem])⟩)
  go_enter Try.func16, Try.ntmps16
  go_wp2_with fail
  obtain ⟨W0, hW0⟩ : ∃ W0 : World, W0 = (((w.alloc (.cells #[.float .f32 x, .float .f32 y] 39)).alloc (.cells #[.float .f32 u, .float .f32 v] 39)).alloc (.cells #[.float .f32 0, .float .f32 0] 39)) := ⟨_, rfl⟩
  have HSz : Hid (W0.heap.size = w.heap.size + 3) := Lib.hid (by rw [hW0]; simp)
  rw [← hW0] at KS ⊢
  clear hW0
  have hz9 : w.heap.size + 1 + 1 < W0.heap.size := by rw [HSz.out]; omega
  have hz8 : w.heap.size + 1 < W0.heap.size := by rw [HSz.out]; omega
  have hz7 : w.heap.size < W0.heap.size := by rw [HSz.out]; omega
  obtain ⟨-, k0, -, k1, -, k2, -, k3, -, -⟩ := KS.out W0 (Below.refl _ _)
  refine region_qtail 4 (by kernel_rfl) (by kernel_rfl) ?_
  simp only [List.take_succ_cons, List.take_zero, List.drop_succ_cons, List.drop_zero]
  repeat (refine wpQuiet_step (fun K hK => ?_); go_simp; first | (refine hK _ ?_; clear hK K) | (apply Exists.intro; refine ⟨fun _ => ?_, hK _ ?_⟩; (first | (with_reducible exact qcall (R1.out _)) | (with_reducible exact qcall (R2.out _))); clear hK K))
  refine wpQuiet_nil ?_
  intro w1 hb1
  have HZ1 : Hid (Below (w.heap.size + 3) W0 w1) := Lib.hid (hb1.mono (by rw [HSz.out]; exact Nat.le_refl _)); clear hb1 k0 k1 k2 k3 hz9 hz8 hz7
  obtain ⟨hB, k0, f0, k1, f1, k2, f2, k3, f3, k4, f4, k5, f5⟩ := KS.out w1 HZ1.out
  have HBE := Lib.hid hB; clear hB
  have hs1 : w.heap.size + 3 ≤ w1.heap.size := by have := HZ1.out.size; rw [HSz.out] at this; exact this
  have hz9 : w.heap.size + 1 + 1 < w1.heap.size := by omega
  have hz8 : w.heap.size + 1 < w1.heap.size := by omega
  have hz7 : w.heap.size < w1.heap.size := by omega
  have hne : w1.heap.size ≠ w.heap.size + 1 + 1 := by omega
  have hne2 : w1.heap.size ≠ w.heap.size + 1 := by omega
  have hne3 : w1.heap.size ≠ w.heap.size := by omega
  go_wp2
  all_goals
      refine bodyPost_ret (v := .agg #[.float .f32 p, .float .f32 q]) (by simp [results, Try.results16, go_sem, *]) rfl ⟨rfl, ?_⟩
      repeat (first | ((with_reducible refine Below.setCell ?_ ?_ _); rotate_left; focus (first | omega | (simp; done) | (simp; omega))) | (with_reducible refine Below.drew ?_) | ((with_reducible refine Below.alloc ?_ ?_ _); rotate_left; focus (first | omega | (simp; done) | (simp; omega))))
      exact HBE.out

set_option maxRecDepth 100000 in
set_option maxHeartbeats 1000000 in
theorem meetNear_walk (x y u v a b c d p q : Nat) (t : Bool) (lo hi : Nat) (h1 : t = true → lo = 2139095040 ∧ hi = 4286578688) (h2 : t = false → lo = p ∧ hi = q)
    (R1 : Hid (∀ w : World, Calls Try.prog 50 #[.agg #[.float .f32 x, .float .f32 y]] w fun e w' => e = .returned (.agg #[.float .f32 a, .float .f32 b]) ∧ Below w.heap.size w w'))
    (R2 : Hid (∀ w : World, Calls Try.prog 50 #[.agg #[.float .f32 u, .float .f32 v]] w fun e w' => e = .returned (.agg #[.float .f32 c, .float .f32 d]) ∧ Below w.heap.size w w'))
    (hm : ∀ (ts : Array TypeId) (t : TypeId) (w : World), (Builtin.max_ ts t #[.float .f32 a, .float .f32 c]).run Try.prog w = .ok (.float .f32 p) w)
    (hn : ∀ (ts : Array TypeId) (t : TypeId) (w : World), (Builtin.min_ ts t #[.float .f32 b, .float .f32 d]).run Try.prog w = .ok (.float .f32 q) w)
    (ht : (FloatKind.f32.format.order p q == some .gt) = t) (w : World) :
    Calls Try.prog 18 #[.agg #[.float .f32 x, .float .f32 y], .agg #[.float .f32 u, .float .f32 v]] w
      fun e w' => e = .returned (.agg #[.float .f32 lo, .float .f32 hi]) ∧ Below w.heap.size w w' := by
  have KS : Hid (∀ w', Below (w.heap.size + 3) (((w.alloc (.cells #[.float .f32 x, .float .f32 y] 45)).alloc (.cells #[.float .f32 u, .float .f32 v] 45)).alloc (.cells #[.float .f32 0, .float .f32 0] 45)) w' → (Below w.heap.size w w' ∧ w'.cell? ⟨w.heap.size, 0, none⟩ = some (.float .f32 x) ∧ w'.frozen? ⟨w.heap.size, 0, none⟩ = false ∧ w'.cell? ⟨w.heap.size, 1, none⟩ = some (.float .f32 y) ∧ w'.frozen? ⟨w.heap.size, 1, none⟩ = false ∧ w'.cell? ⟨w.heap.size + 1, 0, none⟩ = some (.float .f32 u) ∧ w'.frozen? ⟨w.heap.size + 1, 0, none⟩ = false ∧ w'.cell? ⟨w.heap.size + 1, 1, none⟩ = some (.float .f32 v) ∧ w'.frozen? ⟨w.heap.size + 1, 1, none⟩ = false ∧ w'.cell? ⟨w.heap.size + 1 + 1, 0, none⟩ = some (.float .f32 0) ∧ w'.frozen? ⟨w.heap.size + 1 + 1, 0, none⟩ = false ∧ w'.cell? ⟨w.heap.size + 1 + 1, 1, none⟩ = some (.float .f32 0) ∧ w'.frozen? ⟨w.heap.size + 1 + 1, 1, none⟩ = false)) :=
    Lib.hid (fun w' h => ⟨(below3 _ _ _ _).trans (h.mono (by omega)), (h.cell (p := ⟨w.heap.size, 0, none⟩) (by simp; try omega)).trans (by simp [go_sem]), (h.frozen (p := ⟨w.heap.size, 0, none⟩) (by simp; try omega)).trans (by simp [go_sem]), (h.cell (p := ⟨w.heap.size, 1, none⟩) (by simp; try omega)).trans (by simp [go_sem]), (h.frozen (p := ⟨w.heap.size, 1, none⟩) (by simp; try omega)).trans (by simp [go_sem]), (h.cell (p := ⟨w.heap.size + 1, 0, none⟩) (by simp; try omega)).trans (by simp [go_sem]), (h.frozen (p := ⟨w.heap.size + 1, 0, none⟩) (by simp; try omega)).trans (by simp [go_sem]), (h.cell (p := ⟨w.heap.size + 1, 1, none⟩) (by simp; try omega)).trans (by simp [go_sem]), (h.frozen (p := ⟨w.heap.size + 1, 1, none⟩) (by simp; try omega)).trans (by simp [go_sem]), (h.cell (p := ⟨w.heap.size + 1 + 1, 0, none⟩) (by simp; try omega)).trans (by simp [go_sem]), (h.frozen (p := ⟨w.heap.size + 1 + 1, 0, none⟩) (by simp; try omega)).trans (by simp [go_sem]), (h.cell (p := ⟨w.heap.size + 1 + 1, 1, none⟩) (by simp; try omega)).trans (by simp [go_sem]), (h.frozen (p := ⟨w.heap.size + 1 + 1, 1, none⟩) (by simp; try omega)).trans (by simp [go_sem])⟩)
  go_enter Try.func18, Try.ntmps18
  go_wp2_with fail
  obtain ⟨W0, hW0⟩ : ∃ W0 : World, W0 = (((w.alloc (.cells #[.float .f32 x, .float .f32 y] 45)).alloc (.cells #[.float .f32 u, .float .f32 v] 45)).alloc (.cells #[.float .f32 0, .float .f32 0] 45)) := ⟨_, rfl⟩
  have HSz : Hid (W0.heap.size = w.heap.size + 3) := Lib.hid (by rw [hW0]; simp)
  rw [← hW0] at KS ⊢
  clear hW0
  have hz9 : w.heap.size + 1 + 1 < W0.heap.size := by rw [HSz.out]; omega
  have hz8 : w.heap.size + 1 < W0.heap.size := by rw [HSz.out]; omega
  have hz7 : w.heap.size < W0.heap.size := by rw [HSz.out]; omega
  obtain ⟨-, k0, -, k1, -, k2, -, k3, -, -⟩ := KS.out W0 (Below.refl _ _)
  refine region_qtail 4 (by kernel_rfl) (by kernel_rfl) ?_
  simp only [List.take_succ_cons, List.take_zero, List.drop_succ_cons, List.drop_zero]
  repeat (refine wpQuiet_step (fun K hK => ?_); go_simp; first | (refine hK _ ?_; clear hK K) | (apply Exists.intro; refine ⟨fun _ => ?_, hK _ ?_⟩; (first | (with_reducible exact qcall (R1.out _)) | (with_reducible exact qcall (R2.out _))); clear hK K))
  refine wpQuiet_nil ?_
  intro w1 hb1
  have HZ1 : Hid (Below (w.heap.size + 3) W0 w1) := Lib.hid (hb1.mono (by rw [HSz.out]; exact Nat.le_refl _)); clear hb1 k0 k1 k2 k3 hz9 hz8 hz7
  obtain ⟨hB, k0, f0, k1, f1, k2, f2, k3, f3, k4, f4, k5, f5⟩ := KS.out w1 HZ1.out
  have HBE := Lib.hid hB; clear hB
  have hs1 : w.heap.size + 3 ≤ w1.heap.size := by have := HZ1.out.size; rw [HSz.out] at this; exact this
  have hz9 : w.heap.size + 1 + 1 < w1.heap.size := by omega
  have hz8 : w.heap.size + 1 < w1.heap.size := by omega
  have hz7 : w.heap.size < w1.heap.size := by omega
  have hne : w1.heap.size ≠ w.heap.size + 1 + 1 := by omega
  have hne2 : w1.heap.size ≠ w.heap.size + 1 := by omega
  have hne3 : w1.heap.size ≠ w.heap.size := by omega
  cases t
  case false =>
    obtain ⟨rfl, rfl⟩ := h2 rfl
    clear h1 h2
    go_wp2
    all_goals
      refine bodyPost_ret (v := .agg #[.float .f32 lo, .float .f32 hi]) (by simp [results, Try.results18, go_sem, *]) rfl ⟨rfl, ?_⟩
      repeat (first | ((with_reducible refine Below.setCell ?_ ?_ _); rotate_left; focus (first | omega | (simp; done) | (simp; omega))) | (with_reducible refine Below.drew ?_) | ((with_reducible refine Below.alloc ?_ ?_ _); rotate_left; focus (first | omega | (simp; done) | (simp; omega))))
      exact HBE.out
  case true =>
    obtain ⟨rfl, rfl⟩ := h1 rfl
    clear h1 h2
    go_wp2_with fail
    refine (noneNear_any _).mono ?_
    rintro e2 w2 ⟨rfl, hb2⟩
    obtain ⟨hc2, hf2⟩ := bcell hb2
    have hs2 := hb2.size
    simp [World.setCell] at hs2
    have hzz : w.heap.size + 1 + 1 < w2.heap.size := by omega
    have HB2 : Hid (Below w.heap.size w w2) := Lib.hid (by
      refine below_then ?_ hb2
      repeat (first | ((with_reducible refine Below.setCell ?_ ?_ _); rotate_left; focus (first | omega | (simp; done) | (simp; omega))) | (with_reducible refine Below.drew ?_) | ((with_reducible refine Below.alloc ?_ ?_ _); rotate_left; focus (first | omega | (simp; done) | (simp; omega))))
      exact HBE.out)
    clear hb2
    go_wp2
    all_goals
      refine bodyPost_ret (v := .agg #[.float .f32 2139095040, .float .f32 4286578688]) (by simp [results, Try.results18, go_sem, *]) rfl ⟨rfl, ?_⟩
      repeat (first | ((with_reducible refine Below.setCell ?_ ?_ _); rotate_left; focus (first | omega | (simp; done) | (simp; omega))) | (with_reducible refine Below.drew ?_) | ((with_reducible refine Below.alloc ?_ ?_ _); rotate_left; focus (first | omega | (simp; done) | (simp; omega))))
      exact HB2.out

set_option maxRecDepth 100000 in
set_option maxHeartbeats 1000000 in
theorem joinNear_walk (x y u v a b c d p q : Nat)
    (R1 : Hid (∀ w : World, Calls Try.prog 50 #[.agg #[.float .f32 x, .float .f32 y]] w fun e w' => e = .returned (.agg #[.float .f32 a, .float .f32 b]) ∧ Below w.heap.size w w'))
    (R2 : Hid (∀ w : World, Calls Try.prog 50 #[.agg #[.float .f32 u, .float .f32 v]] w fun e w' => e = .returned (.agg #[.float .f32 c, .float .f32 d]) ∧ Below w.heap.size w w'))
    (hm : ∀ (ts : Array TypeId) (t : TypeId) (w : World), (Builtin.min_ ts t #[.float .f32 a, .float .f32 c]).run Try.prog w = .ok (.float .f32 p) w)
    (hn : ∀ (ts : Array TypeId) (t : TypeId) (w : World), (Builtin.max_ ts t #[.float .f32 b, .float .f32 d]).run Try.prog w = .ok (.float .f32 q) w) (w : World) :
    Calls Try.prog 19 #[.agg #[.float .f32 x, .float .f32 y], .agg #[.float .f32 u, .float .f32 v]] w
      fun e w' => e = .returned (.agg #[.float .f32 p, .float .f32 q]) ∧ Below w.heap.size w w' := by
  have KS : Hid (∀ w', Below (w.heap.size + 3) (((w.alloc (.cells #[.float .f32 x, .float .f32 y] 45)).alloc (.cells #[.float .f32 u, .float .f32 v] 45)).alloc (.cells #[.float .f32 0, .float .f32 0] 45)) w' → (Below w.heap.size w w' ∧ w'.cell? ⟨w.heap.size, 0, none⟩ = some (.float .f32 x) ∧ w'.frozen? ⟨w.heap.size, 0, none⟩ = false ∧ w'.cell? ⟨w.heap.size, 1, none⟩ = some (.float .f32 y) ∧ w'.frozen? ⟨w.heap.size, 1, none⟩ = false ∧ w'.cell? ⟨w.heap.size + 1, 0, none⟩ = some (.float .f32 u) ∧ w'.frozen? ⟨w.heap.size + 1, 0, none⟩ = false ∧ w'.cell? ⟨w.heap.size + 1, 1, none⟩ = some (.float .f32 v) ∧ w'.frozen? ⟨w.heap.size + 1, 1, none⟩ = false ∧ w'.cell? ⟨w.heap.size + 1 + 1, 0, none⟩ = some (.float .f32 0) ∧ w'.frozen? ⟨w.heap.size + 1 + 1, 0, none⟩ = false ∧ w'.cell? ⟨w.heap.size + 1 + 1, 1, none⟩ = some (.float .f32 0) ∧ w'.frozen? ⟨w.heap.size + 1 + 1, 1, none⟩ = false)) :=
    Lib.hid (fun w' h => ⟨(below3 _ _ _ _).trans (h.mono (by omega)), (h.cell (p := ⟨w.heap.size, 0, none⟩) (by simp; try omega)).trans (by simp [go_sem]), (h.frozen (p := ⟨w.heap.size, 0, none⟩) (by simp; try omega)).trans (by simp [go_sem]), (h.cell (p := ⟨w.heap.size, 1, none⟩) (by simp; try omega)).trans (by simp [go_sem]), (h.frozen (p := ⟨w.heap.size, 1, none⟩) (by simp; try omega)).trans (by simp [go_sem]), (h.cell (p := ⟨w.heap.size + 1, 0, none⟩) (by simp; try omega)).trans (by simp [go_sem]), (h.frozen (p := ⟨w.heap.size + 1, 0, none⟩) (by simp; try omega)).trans (by simp [go_sem]), (h.cell (p := ⟨w.heap.size + 1, 1, none⟩) (by simp; try omega)).trans (by simp [go_sem]), (h.frozen (p := ⟨w.heap.size + 1, 1, none⟩) (by simp; try omega)).trans (by simp [go_sem]), (h.cell (p := ⟨w.heap.size + 1 + 1, 0, none⟩) (by simp; try omega)).trans (by simp [go_sem]), (h.frozen (p := ⟨w.heap.size + 1 + 1, 0, none⟩) (by simp; try omega)).trans (by simp [go_sem]), (h.cell (p := ⟨w.heap.size + 1 + 1, 1, none⟩) (by simp; try omega)).trans (by simp [go_sem]), (h.frozen (p := ⟨w.heap.size + 1 + 1, 1, none⟩) (by simp; try omega)).trans (by simp [go_sem])⟩)
  go_enter Try.func19, Try.ntmps19
  go_wp2_with fail
  obtain ⟨W0, hW0⟩ : ∃ W0 : World, W0 = (((w.alloc (.cells #[.float .f32 x, .float .f32 y] 45)).alloc (.cells #[.float .f32 u, .float .f32 v] 45)).alloc (.cells #[.float .f32 0, .float .f32 0] 45)) := ⟨_, rfl⟩
  have HSz : Hid (W0.heap.size = w.heap.size + 3) := Lib.hid (by rw [hW0]; simp)
  rw [← hW0] at KS ⊢
  clear hW0
  have hz9 : w.heap.size + 1 + 1 < W0.heap.size := by rw [HSz.out]; omega
  have hz8 : w.heap.size + 1 < W0.heap.size := by rw [HSz.out]; omega
  have hz7 : w.heap.size < W0.heap.size := by rw [HSz.out]; omega
  obtain ⟨-, k0, -, k1, -, k2, -, k3, -, -⟩ := KS.out W0 (Below.refl _ _)
  refine region_qtail 4 (by kernel_rfl) (by kernel_rfl) ?_
  simp only [List.take_succ_cons, List.take_zero, List.drop_succ_cons, List.drop_zero]
  repeat (refine wpQuiet_step (fun K hK => ?_); go_simp; first | (refine hK _ ?_; clear hK K) | (apply Exists.intro; refine ⟨fun _ => ?_, hK _ ?_⟩; (first | (with_reducible exact qcall (R1.out _)) | (with_reducible exact qcall (R2.out _))); clear hK K))
  refine wpQuiet_nil ?_
  intro w1 hb1
  have HZ1 : Hid (Below (w.heap.size + 3) W0 w1) := Lib.hid (hb1.mono (by rw [HSz.out]; exact Nat.le_refl _)); clear hb1 k0 k1 k2 k3 hz9 hz8 hz7
  obtain ⟨hB, k0, f0, k1, f1, k2, f2, k3, f3, k4, f4, k5, f5⟩ := KS.out w1 HZ1.out
  have HBE := Lib.hid hB; clear hB
  have hs1 : w.heap.size + 3 ≤ w1.heap.size := by have := HZ1.out.size; rw [HSz.out] at this; exact this
  have hz9 : w.heap.size + 1 + 1 < w1.heap.size := by omega
  have hz8 : w.heap.size + 1 < w1.heap.size := by omega
  have hz7 : w.heap.size < w1.heap.size := by omega
  have hne : w1.heap.size ≠ w.heap.size + 1 + 1 := by omega
  have hne2 : w1.heap.size ≠ w.heap.size + 1 := by omega
  have hne3 : w1.heap.size ≠ w.heap.size := by omega
  go_wp2
  all_goals
      refine bodyPost_ret (v := .agg #[.float .f32 p, .float .f32 q]) (by simp [results, Try.results19, go_sem, *]) rfl ⟨rfl, ?_⟩
      repeat (first | ((with_reducible refine Below.setCell ?_ ?_ _); rotate_left; focus (first | omega | (simp; done) | (simp; omega))) | (with_reducible refine Below.drew ?_) | ((with_reducible refine Below.alloc ?_ ?_ _); rotate_left; focus (first | omega | (simp; done) | (simp; omega))))
      exact HBE.out

set_option maxRecDepth 100000 in
set_option maxHeartbeats 1000000 in
theorem meet64_walk (x y u v a b c d p q : Nat) (t : Bool) (lo hi : Nat) (h1 : t = true → lo = 9218868437227405312 ∧ hi = 18442240474082181120) (h2 : t = false → lo = p ∧ hi = q)
    (R1 : Hid (∀ w : World, Calls Try.prog 53 #[.agg #[.float .f64 x, .float .f64 y]] w fun e w' => e = .returned (.agg #[.float .f64 a, .float .f64 b]) ∧ Below w.heap.size w w'))
    (R2 : Hid (∀ w : World, Calls Try.prog 53 #[.agg #[.float .f64 u, .float .f64 v]] w fun e w' => e = .returned (.agg #[.float .f64 c, .float .f64 d]) ∧ Below w.heap.size w w'))
    (hm : ∀ (ts : Array TypeId) (t : TypeId) (w : World), (Builtin.max_ ts t #[.float .f64 a, .float .f64 c]).run Try.prog w = .ok (.float .f64 p) w)
    (hn : ∀ (ts : Array TypeId) (t : TypeId) (w : World), (Builtin.min_ ts t #[.float .f64 b, .float .f64 d]).run Try.prog w = .ok (.float .f64 q) w)
    (ht : (FloatKind.f64.format.order p q == some .gt) = t) (w : World) :
    Calls Try.prog 22 #[.agg #[.float .f64 x, .float .f64 y], .agg #[.float .f64 u, .float .f64 v]] w
      fun e w' => e = .returned (.agg #[.float .f64 lo, .float .f64 hi]) ∧ Below w.heap.size w w' := by
  have KS : Hid (∀ w', Below (w.heap.size + 3) (((w.alloc (.cells #[.float .f64 x, .float .f64 y] 49)).alloc (.cells #[.float .f64 u, .float .f64 v] 49)).alloc (.cells #[.float .f64 0, .float .f64 0] 49)) w' → (Below w.heap.size w w' ∧ w'.cell? ⟨w.heap.size, 0, none⟩ = some (.float .f64 x) ∧ w'.frozen? ⟨w.heap.size, 0, none⟩ = false ∧ w'.cell? ⟨w.heap.size, 1, none⟩ = some (.float .f64 y) ∧ w'.frozen? ⟨w.heap.size, 1, none⟩ = false ∧ w'.cell? ⟨w.heap.size + 1, 0, none⟩ = some (.float .f64 u) ∧ w'.frozen? ⟨w.heap.size + 1, 0, none⟩ = false ∧ w'.cell? ⟨w.heap.size + 1, 1, none⟩ = some (.float .f64 v) ∧ w'.frozen? ⟨w.heap.size + 1, 1, none⟩ = false ∧ w'.cell? ⟨w.heap.size + 1 + 1, 0, none⟩ = some (.float .f64 0) ∧ w'.frozen? ⟨w.heap.size + 1 + 1, 0, none⟩ = false ∧ w'.cell? ⟨w.heap.size + 1 + 1, 1, none⟩ = some (.float .f64 0) ∧ w'.frozen? ⟨w.heap.size + 1 + 1, 1, none⟩ = false)) :=
    Lib.hid (fun w' h => ⟨(below3 _ _ _ _).trans (h.mono (by omega)), (h.cell (p := ⟨w.heap.size, 0, none⟩) (by simp; try omega)).trans (by simp [go_sem]), (h.frozen (p := ⟨w.heap.size, 0, none⟩) (by simp; try omega)).trans (by simp [go_sem]), (h.cell (p := ⟨w.heap.size, 1, none⟩) (by simp; try omega)).trans (by simp [go_sem]), (h.frozen (p := ⟨w.heap.size, 1, none⟩) (by simp; try omega)).trans (by simp [go_sem]), (h.cell (p := ⟨w.heap.size + 1, 0, none⟩) (by simp; try omega)).trans (by simp [go_sem]), (h.frozen (p := ⟨w.heap.size + 1, 0, none⟩) (by simp; try omega)).trans (by simp [go_sem]), (h.cell (p := ⟨w.heap.size + 1, 1, none⟩) (by simp; try omega)).trans (by simp [go_sem]), (h.frozen (p := ⟨w.heap.size + 1, 1, none⟩) (by simp; try omega)).trans (by simp [go_sem]), (h.cell (p := ⟨w.heap.size + 1 + 1, 0, none⟩) (by simp; try omega)).trans (by simp [go_sem]), (h.frozen (p := ⟨w.heap.size + 1 + 1, 0, none⟩) (by simp; try omega)).trans (by simp [go_sem]), (h.cell (p := ⟨w.heap.size + 1 + 1, 1, none⟩) (by simp; try omega)).trans (by simp [go_sem]), (h.frozen (p := ⟨w.heap.size + 1 + 1, 1, none⟩) (by simp; try omega)).trans (by simp [go_sem])⟩)
  go_enter Try.func22, Try.ntmps22
  go_wp2_with fail
  obtain ⟨W0, hW0⟩ : ∃ W0 : World, W0 = (((w.alloc (.cells #[.float .f64 x, .float .f64 y] 49)).alloc (.cells #[.float .f64 u, .float .f64 v] 49)).alloc (.cells #[.float .f64 0, .float .f64 0] 49)) := ⟨_, rfl⟩
  have HSz : Hid (W0.heap.size = w.heap.size + 3) := Lib.hid (by rw [hW0]; simp)
  rw [← hW0] at KS ⊢
  clear hW0
  have hz9 : w.heap.size + 1 + 1 < W0.heap.size := by rw [HSz.out]; omega
  have hz8 : w.heap.size + 1 < W0.heap.size := by rw [HSz.out]; omega
  have hz7 : w.heap.size < W0.heap.size := by rw [HSz.out]; omega
  obtain ⟨-, k0, -, k1, -, k2, -, k3, -, -⟩ := KS.out W0 (Below.refl _ _)
  refine region_qtail 4 (by kernel_rfl) (by kernel_rfl) ?_
  simp only [List.take_succ_cons, List.take_zero, List.drop_succ_cons, List.drop_zero]
  repeat (refine wpQuiet_step (fun K hK => ?_); go_simp; first | (refine hK _ ?_; clear hK K) | (apply Exists.intro; refine ⟨fun _ => ?_, hK _ ?_⟩; (first | (with_reducible exact qcall (R1.out _)) | (with_reducible exact qcall (R2.out _))); clear hK K))
  refine wpQuiet_nil ?_
  intro w1 hb1
  have HZ1 : Hid (Below (w.heap.size + 3) W0 w1) := Lib.hid (hb1.mono (by rw [HSz.out]; exact Nat.le_refl _)); clear hb1 k0 k1 k2 k3 hz9 hz8 hz7
  obtain ⟨hB, k0, f0, k1, f1, k2, f2, k3, f3, k4, f4, k5, f5⟩ := KS.out w1 HZ1.out
  have HBE := Lib.hid hB; clear hB
  have hs1 : w.heap.size + 3 ≤ w1.heap.size := by have := HZ1.out.size; rw [HSz.out] at this; exact this
  have hz9 : w.heap.size + 1 + 1 < w1.heap.size := by omega
  have hz8 : w.heap.size + 1 < w1.heap.size := by omega
  have hz7 : w.heap.size < w1.heap.size := by omega
  have hne : w1.heap.size ≠ w.heap.size + 1 + 1 := by omega
  have hne2 : w1.heap.size ≠ w.heap.size + 1 := by omega
  have hne3 : w1.heap.size ≠ w.heap.size := by omega
  cases t
  case false =>
    obtain ⟨rfl, rfl⟩ := h2 rfl
    clear h1 h2
    go_wp2
    all_goals
      refine bodyPost_ret (v := .agg #[.float .f64 lo, .float .f64 hi]) (by simp [results, Try.results22, go_sem, *]) rfl ⟨rfl, ?_⟩
      repeat (first | ((with_reducible refine Below.setCell ?_ ?_ _); rotate_left; focus (first | omega | (simp; done) | (simp; omega))) | (with_reducible refine Below.drew ?_) | ((with_reducible refine Below.alloc ?_ ?_ _); rotate_left; focus (first | omega | (simp; done) | (simp; omega))))
      exact HBE.out
  case true =>
    obtain ⟨rfl, rfl⟩ := h1 rfl
    clear h1 h2
    go_wp2_with fail
    refine (none64_any _).mono ?_
    rintro e2 w2 ⟨rfl, hb2⟩
    obtain ⟨hc2, hf2⟩ := bcell hb2
    have hs2 := hb2.size
    simp [World.setCell] at hs2
    have hzz : w.heap.size + 1 + 1 < w2.heap.size := by omega
    have HB2 : Hid (Below w.heap.size w w2) := Lib.hid (by
      refine below_then ?_ hb2
      repeat (first | ((with_reducible refine Below.setCell ?_ ?_ _); rotate_left; focus (first | omega | (simp; done) | (simp; omega))) | (with_reducible refine Below.drew ?_) | ((with_reducible refine Below.alloc ?_ ?_ _); rotate_left; focus (first | omega | (simp; done) | (simp; omega))))
      exact HBE.out)
    clear hb2
    go_wp2
    all_goals
      refine bodyPost_ret (v := .agg #[.float .f64 9218868437227405312, .float .f64 18442240474082181120]) (by simp [results, Try.results22, go_sem, *]) rfl ⟨rfl, ?_⟩
      repeat (first | ((with_reducible refine Below.setCell ?_ ?_ _); rotate_left; focus (first | omega | (simp; done) | (simp; omega))) | (with_reducible refine Below.drew ?_) | ((with_reducible refine Below.alloc ?_ ?_ _); rotate_left; focus (first | omega | (simp; done) | (simp; omega))))
      exact HB2.out

set_option maxRecDepth 100000 in
set_option maxHeartbeats 1000000 in
theorem joinFar_walk (x y u v a b c d p q : Nat)
    (R1 : Hid (∀ w : World, Calls Try.prog 55 #[.agg #[.float .f64 x, .float .f64 y]] w fun e w' => e = .returned (.agg #[.float .f64 a, .float .f64 b]) ∧ Below w.heap.size w w'))
    (R2 : Hid (∀ w : World, Calls Try.prog 55 #[.agg #[.float .f64 u, .float .f64 v]] w fun e w' => e = .returned (.agg #[.float .f64 c, .float .f64 d]) ∧ Below w.heap.size w w'))
    (hm : ∀ (ts : Array TypeId) (t : TypeId) (w : World), (Builtin.min_ ts t #[.float .f64 a, .float .f64 c]).run Try.prog w = .ok (.float .f64 p) w)
    (hn : ∀ (ts : Array TypeId) (t : TypeId) (w : World), (Builtin.max_ ts t #[.float .f64 b, .float .f64 d]).run Try.prog w = .ok (.float .f64 q) w) (w : World) :
    Calls Try.prog 23 #[.agg #[.float .f64 x, .float .f64 y], .agg #[.float .f64 u, .float .f64 v]] w
      fun e w' => e = .returned (.agg #[.float .f64 p, .float .f64 q]) ∧ Below w.heap.size w w' := by
  have KS : Hid (∀ w', Below (w.heap.size + 3) (((w.alloc (.cells #[.float .f64 x, .float .f64 y] 53)).alloc (.cells #[.float .f64 u, .float .f64 v] 53)).alloc (.cells #[.float .f64 0, .float .f64 0] 53)) w' → (Below w.heap.size w w' ∧ w'.cell? ⟨w.heap.size, 0, none⟩ = some (.float .f64 x) ∧ w'.frozen? ⟨w.heap.size, 0, none⟩ = false ∧ w'.cell? ⟨w.heap.size, 1, none⟩ = some (.float .f64 y) ∧ w'.frozen? ⟨w.heap.size, 1, none⟩ = false ∧ w'.cell? ⟨w.heap.size + 1, 0, none⟩ = some (.float .f64 u) ∧ w'.frozen? ⟨w.heap.size + 1, 0, none⟩ = false ∧ w'.cell? ⟨w.heap.size + 1, 1, none⟩ = some (.float .f64 v) ∧ w'.frozen? ⟨w.heap.size + 1, 1, none⟩ = false ∧ w'.cell? ⟨w.heap.size + 1 + 1, 0, none⟩ = some (.float .f64 0) ∧ w'.frozen? ⟨w.heap.size + 1 + 1, 0, none⟩ = false ∧ w'.cell? ⟨w.heap.size + 1 + 1, 1, none⟩ = some (.float .f64 0) ∧ w'.frozen? ⟨w.heap.size + 1 + 1, 1, none⟩ = false)) :=
    Lib.hid (fun w' h => ⟨(below3 _ _ _ _).trans (h.mono (by omega)), (h.cell (p := ⟨w.heap.size, 0, none⟩) (by simp; try omega)).trans (by simp [go_sem]), (h.frozen (p := ⟨w.heap.size, 0, none⟩) (by simp; try omega)).trans (by simp [go_sem]), (h.cell (p := ⟨w.heap.size, 1, none⟩) (by simp; try omega)).trans (by simp [go_sem]), (h.frozen (p := ⟨w.heap.size, 1, none⟩) (by simp; try omega)).trans (by simp [go_sem]), (h.cell (p := ⟨w.heap.size + 1, 0, none⟩) (by simp; try omega)).trans (by simp [go_sem]), (h.frozen (p := ⟨w.heap.size + 1, 0, none⟩) (by simp; try omega)).trans (by simp [go_sem]), (h.cell (p := ⟨w.heap.size + 1, 1, none⟩) (by simp; try omega)).trans (by simp [go_sem]), (h.frozen (p := ⟨w.heap.size + 1, 1, none⟩) (by simp; try omega)).trans (by simp [go_sem]), (h.cell (p := ⟨w.heap.size + 1 + 1, 0, none⟩) (by simp; try omega)).trans (by simp [go_sem]), (h.frozen (p := ⟨w.heap.size + 1 + 1, 0, none⟩) (by simp; try omega)).trans (by simp [go_sem]), (h.cell (p := ⟨w.heap.size + 1 + 1, 1, none⟩) (by simp; try omega)).trans (by simp [go_sem]), (h.frozen (p := ⟨w.heap.size + 1 + 1, 1, none⟩) (by simp; try omega)).trans (by simp [go_sem])⟩)
  go_enter Try.func23, Try.ntmps23
  go_wp2_with fail
  obtain ⟨W0, hW0⟩ : ∃ W0 : World, W0 = (((w.alloc (.cells #[.float .f64 x, .float .f64 y] 53)).alloc (.cells #[.float .f64 u, .float .f64 v] 53)).alloc (.cells #[.float .f64 0, .float .f64 0] 53)) := ⟨_, rfl⟩
  have HSz : Hid (W0.heap.size = w.heap.size + 3) := Lib.hid (by rw [hW0]; simp)
  rw [← hW0] at KS ⊢
  clear hW0
  have hz9 : w.heap.size + 1 + 1 < W0.heap.size := by rw [HSz.out]; omega
  have hz8 : w.heap.size + 1 < W0.heap.size := by rw [HSz.out]; omega
  have hz7 : w.heap.size < W0.heap.size := by rw [HSz.out]; omega
  obtain ⟨-, k0, -, k1, -, k2, -, k3, -, -⟩ := KS.out W0 (Below.refl _ _)
  refine region_qtail 4 (by kernel_rfl) (by kernel_rfl) ?_
  simp only [List.take_succ_cons, List.take_zero, List.drop_succ_cons, List.drop_zero]
  repeat (refine wpQuiet_step (fun K hK => ?_); go_simp; first | (refine hK _ ?_; clear hK K) | (apply Exists.intro; refine ⟨fun _ => ?_, hK _ ?_⟩; (first | (with_reducible exact qcall (R1.out _)) | (with_reducible exact qcall (R2.out _))); clear hK K))
  refine wpQuiet_nil ?_
  intro w1 hb1
  have HZ1 : Hid (Below (w.heap.size + 3) W0 w1) := Lib.hid (hb1.mono (by rw [HSz.out]; exact Nat.le_refl _)); clear hb1 k0 k1 k2 k3 hz9 hz8 hz7
  obtain ⟨hB, k0, f0, k1, f1, k2, f2, k3, f3, k4, f4, k5, f5⟩ := KS.out w1 HZ1.out
  have HBE := Lib.hid hB; clear hB
  have hs1 : w.heap.size + 3 ≤ w1.heap.size := by have := HZ1.out.size; rw [HSz.out] at this; exact this
  have hz9 : w.heap.size + 1 + 1 < w1.heap.size := by omega
  have hz8 : w.heap.size + 1 < w1.heap.size := by omega
  have hz7 : w.heap.size < w1.heap.size := by omega
  have hne : w1.heap.size ≠ w.heap.size + 1 + 1 := by omega
  have hne2 : w1.heap.size ≠ w.heap.size + 1 := by omega
  have hne3 : w1.heap.size ≠ w.heap.size := by omega
  go_wp2
  all_goals
      refine bodyPost_ret (v := .agg #[.float .f64 p, .float .f64 q]) (by simp [results, Try.results23, go_sem, *]) rfl ⟨rfl, ?_⟩
      repeat (first | ((with_reducible refine Below.setCell ?_ ?_ _); rotate_left; focus (first | omega | (simp; done) | (simp; omega))) | (with_reducible refine Below.drew ?_) | ((with_reducible refine Below.alloc ?_ ?_ _); rotate_left; focus (first | omega | (simp; done) | (simp; omega))))
      exact HBE.out

end Go.Proofs.Ytamaeggkpdgaiaa
