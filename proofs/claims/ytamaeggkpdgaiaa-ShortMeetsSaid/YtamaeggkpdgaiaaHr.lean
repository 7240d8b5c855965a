/- The walk of the law ShortMeets. -/
import Derived.Test.YtamaeggkpdgaiaaHq
import Derived.BigQuiet
namespace Go.Proofs.Ytamaeggkpdgaiaa
open Go.RowKit


set_option maxRecDepth 100000 in
set_option maxHeartbeats 4000000 in
theorem shortMeets_walk (x y x' y' u v u' v' m1 m2 j1 j2 M1 M2 J1 J2 : Nat)
    (MT : Hid (∀ w : World, Calls Try.prog 14 #[.agg #[.float .f32 x, .float .f32 y], .agg #[.float .f32 x', .float .f32 y']] w fun e w' => e = .returned (.agg #[.float .f32 m1, .float .f32 m2]) ∧ Below w.heap.size w w'))
    (JN : Hid (∀ w : World, Calls Try.prog 16 #[.agg #[.float .f32 x, .float .f32 y], .agg #[.float .f32 x', .float .f32 y']] w fun e w' => e = .returned (.agg #[.float .f32 j1, .float .f32 j2]) ∧ Below w.heap.size w w'))
    (MR : Hid (∀ w : World, Calls Try.prog 18 #[.agg #[.float .f32 x, .float .f32 y], .agg #[.float .f32 x', .float .f32 y']] w fun e w' => e = .returned (.agg #[.float .f32 m1, .float .f32 m2]) ∧ Below w.heap.size w w'))
    (JR : Hid (∀ w : World, Calls Try.prog 19 #[.agg #[.float .f32 x, .float .f32 y], .agg #[.float .f32 x', .float .f32 y']] w fun e w' => e = .returned (.agg #[.float .f32 j1, .float .f32 j2]) ∧ Below w.heap.size w w'))
    (M14 : Hid (∀ w : World, Calls Try.prog 15 #[.agg #[.int .u32 (x : Int), .int .u32 (y : Int)], .agg #[.int .u32 (x' : Int), .int .u32 (y' : Int)]] w fun e w' => e = .returned (.agg #[.int .u32 (m1 : Int), .int .u32 (m2 : Int)]) ∧ Below w.heap.size w w'))
    (J14 : Hid (∀ w : World, Calls Try.prog 17 #[.agg #[.int .u32 (x : Int), .int .u32 (y : Int)], .agg #[.int .u32 (x' : Int), .int .u32 (y' : Int)]] w fun e w' => e = .returned (.agg #[.int .u32 (j1 : Int), .int .u32 (j2 : Int)]) ∧ Below w.heap.size w w'))
    (MD : Hid (∀ w : World, Calls Try.prog 22 #[.agg #[.float .f64 u, .float .f64 v], .agg #[.float .f64 u', .float .f64 v']] w fun e w' => e = .returned (.agg #[.float .f64 M1, .float .f64 M2]) ∧ Below w.heap.size w w'))
    (JF : Hid (∀ w : World, Calls Try.prog 23 #[.agg #[.float .f64 u, .float .f64 v], .agg #[.float .f64 u', .float .f64 v']] w fun e w' => e = .returned (.agg #[.float .f64 J1, .float .f64 J2]) ∧ Below w.heap.size w w'))
    (I9 : Hid (∀ w : World, Calls Try.prog 24 #[.agg #[.int .u64 (u : Int), .int .u64 (v : Int)], .agg #[.int .u64 (u' : Int), .int .u64 (v' : Int)]] w fun e w' => e = .returned (.agg #[.int .u64 (M1 : Int), .int .u64 (M2 : Int)]) ∧ Below w.heap.size w w'))
    (H9 : Hid (∀ w : World, Calls Try.prog 25 #[.agg #[.int .u64 (u : Int), .int .u64 (v : Int)], .agg #[.int .u64 (u' : Int), .int .u64 (v' : Int)]] w fun e w' => e = .returned (.agg #[.int .u64 (J1 : Int), .int .u64 (J2 : Int)]) ∧ Below w.heap.size w w')) (w : World) :
    Calls Try.prog 4 #[.agg #[.int .u32 (x : Int), .int .u32 (y : Int)], .agg #[.int .u32 (x' : Int), .int .u32 (y' : Int)], .agg #[.int .u64 (u : Int), .int .u64 (v : Int)], .agg #[.int .u64 (u' : Int), .int .u64 (v' : Int)]] w fun e w' => e = .returned (.bool true) ∧ Below w.heap.size w w' := by
  have K0 : Hid (∀ w', Below (w.heap.size + 4) ((((w.alloc (.cells #[.int .u32 (x : Int), .int .u32 (y : Int)] 24)).alloc (.cells #[.int .u32 (x' : Int), .int .u32 (y' : Int)] 24)).alloc (.cells #[.int .u64 (u : Int), .int .u64 (v : Int)] 27)).alloc (.cells #[.int .u64 (u' : Int), .int .u64 (v' : Int)] 27)) w' → (Below w.heap.size w w' ∧ w'.cell? ⟨w.heap.size, 0, none⟩ = some (.int .u32 (x : Int)) ∧ w'.cell? ⟨w.heap.size, 1, none⟩ = some (.int .u32 (y : Int)) ∧ w'.cell? ⟨w.heap.size + 1, 0, none⟩ = some (.int .u32 (x' : Int)) ∧ w'.cell? ⟨w.heap.size + 1, 1, none⟩ = some (.int .u32 (y' : Int)) ∧ w'.cell? ⟨w.heap.size + 1 + 1, 0, none⟩ = some (.int .u64 (u : Int)) ∧ w'.cell? ⟨w.heap.size + 1 + 1, 1, none⟩ = some (.int .u64 (v : Int)) ∧ w'.cell? ⟨w.heap.size + 1 + 1 + 1, 0, none⟩ = some (.int .u64 (u' : Int)) ∧ w'.cell? ⟨w.heap.size + 1 + 1 + 1, 1, none⟩ = some (.int .u64 (v' : Int)))) :=
    Lib.hid (fun w' h => ⟨((below3 _ _ _ _).alloc (by simp; try omega) _).trans (h.mono (by omega)), (h.cell (p := ⟨w.heap.size, 0, none⟩) (by simp; try omega)).trans (by simp [go_sem]), (h.cell (p := ⟨w.heap.size, 1, none⟩) (by simp; try omega)).trans (by simp [go_sem]), (h.cell (p := ⟨w.heap.size + 1, 0, none⟩) (by simp; try omega)).trans (by simp [go_sem]), (h.cell (p := ⟨w.heap.size + 1, 1, none⟩) (by simp; try omega)).trans (by simp [go_sem]), (h.cell (p := ⟨w.heap.size + 1 + 1, 0, none⟩) (by simp; try omega)).trans (by simp [go_sem]), (h.cell (p := ⟨w.heap.size + 1 + 1, 1, none⟩) (by simp; try omega)).trans (by simp [go_sem]), (h.cell (p := ⟨w.heap.size + 1 + 1 + 1, 0, none⟩) (by simp; try omega)).trans (by simp [go_sem]), (h.cell (p := ⟨w.heap.size + 1 + 1 + 1, 1, none⟩) (by simp; try omega)).trans (by simp [go_sem])⟩)
  go_enter Try.func4, Try.ntmps4
  go_wp2_with fail
  obtain ⟨V0, hV0⟩ : ∃ V : World, V = ((((w.alloc (.cells #[.int .u32 (x : Int), .int .u32 (y : Int)] 24)).alloc (.cells #[.int .u32 (x' : Int), .int .u32 (y' : Int)] 24)).alloc (.cells #[.int .u64 (u : Int), .int .u64 (v : Int)] 27)).alloc (.cells #[.int .u64 (u' : Int), .int .u64 (v' : Int)] 27)) := ⟨_, rfl⟩
  have HSV0 : Hid (V0.heap.size = w.heap.size + 4) := Lib.hid (by rw [hV0]; simp)
  rw [← hV0] at K0 ⊢
  clear hV0
  replace K0 : Hid (∀ w', Below V0.heap.size V0 w' → (Below w.heap.size w w' ∧ w'.cell? ⟨w.heap.size, 0, none⟩ = some (.int .u32 (x : Int)) ∧ w'.cell? ⟨w.heap.size, 1, none⟩ = some (.int .u32 (y : Int)) ∧ w'.cell? ⟨w.heap.size + 1, 0, none⟩ = some (.int .u32 (x' : Int)) ∧ w'.cell? ⟨w.heap.size + 1, 1, none⟩ = some (.int .u32 (y' : Int)) ∧ w'.cell? ⟨w.heap.size + 1 + 1, 0, none⟩ = some (.int .u64 (u : Int)) ∧ w'.cell? ⟨w.heap.size + 1 + 1, 1, none⟩ = some (.int .u64 (v : Int)) ∧ w'.cell? ⟨w.heap.size + 1 + 1 + 1, 0, none⟩ = some (.int .u64 (u' : Int)) ∧ w'.cell? ⟨w.heap.size + 1 + 1 + 1, 1, none⟩ = some (.int .u64 (v' : Int)))) := Lib.hid (fun w' h => K0.out w' (h.mono (by rw [HSV0.out]; exact Nat.le_refl _)))
  have B0 : Hid (w.heap.size + 4 ≤ V0.heap.size) := Lib.hid (by rw [HSV0.out]; exact Nat.le_refl _)
  obtain ⟨-, k0, k1, k2, k3, k4, k5, k6, k7⟩ := K0.out V0 (Below.refl V0.heap.size V0)
  have l0 : w.heap.size < V0.heap.size := by have := B0.out; have := ((Below.refl V0.heap.size V0)).size; omega
  have l1 : w.heap.size + 1 < V0.heap.size := by have := B0.out; have := ((Below.refl V0.heap.size V0)).size; omega
  have l2 : w.heap.size + 1 + 1 < V0.heap.size := by have := B0.out; have := ((Below.refl V0.heap.size V0)).size; omega
  have l3 : w.heap.size + 1 + 1 + 1 < V0.heap.size := by have := B0.out; have := ((Below.refl V0.heap.size V0)).size; omega
  clear k0 k1 k2 k3 k4 k5 k6 k7 l0 l1 l2 l3
  refine (in_any x y _).mono ?_
  rintro e1 w1 ⟨rfl, hb1⟩
  have HZ1 := Lib.hid hb1; clear hb1
  obtain ⟨-, k0, k1, k2, k3, k4, k5, k6, k7⟩ := K0.out w1 HZ1.out
  have l0 : w.heap.size < w1.heap.size := by have := B0.out; have := (HZ1.out).size; omega
  have l1 : w.heap.size + 1 < w1.heap.size := by have := B0.out; have := (HZ1.out).size; omega
  have l2 : w.heap.size + 1 + 1 < w1.heap.size := by have := B0.out; have := (HZ1.out).size; omega
  have l3 : w.heap.size + 1 + 1 + 1 < w1.heap.size := by have := B0.out; have := (HZ1.out).size; omega
  go_wp2_with fail
  obtain ⟨V1, hV1⟩ : ∃ V : World, V = (w1.alloc (.cells #[.float .f32 x, .float .f32 y] 35)) := ⟨_, rfl⟩
  have HSV1 : Hid (V1.heap.size = w1.heap.size + 1) := Lib.hid (by rw [hV1]; simp)
  have K1 : Hid (∀ w', Below V1.heap.size V1 w' → (Below w.heap.size w w' ∧ w'.cell? ⟨w.heap.size, 0, none⟩ = some (.int .u32 (x : Int)) ∧ w'.cell? ⟨w.heap.size, 1, none⟩ = some (.int .u32 (y : Int)) ∧ w'.cell? ⟨w.heap.size + 1, 0, none⟩ = some (.int .u32 (x' : Int)) ∧ w'.cell? ⟨w.heap.size + 1, 1, none⟩ = some (.int .u32 (y' : Int)) ∧ w'.cell? ⟨w.heap.size + 1 + 1, 0, none⟩ = some (.int .u64 (u : Int)) ∧ w'.cell? ⟨w.heap.size + 1 + 1, 1, none⟩ = some (.int .u64 (v : Int)) ∧ w'.cell? ⟨w.heap.size + 1 + 1 + 1, 0, none⟩ = some (.int .u64 (u' : Int)) ∧ w'.cell? ⟨w.heap.size + 1 + 1 + 1, 1, none⟩ = some (.int .u64 (v' : Int)) ∧ w'.cell? ⟨w1.heap.size, 0, none⟩ = some (.float .f32 x) ∧ w'.cell? ⟨w1.heap.size, 1, none⟩ = some (.float .f32 y))) := Lib.hid (fun w' h => by
    have h0 : Below w1.heap.size w1 w' := (show Below w1.heap.size w1 V1 from by rw [hV1]; exact ((Below.refl w1.heap.size w1).alloc (by simp; try omega) _)).trans (h.mono (by rw [HSV1.out]; omega))
    obtain ⟨f, g0, g1, g2, g3, g4, g5, g6, g7⟩ := (K0.out w' (HZ1.out.trans (h0.mono HZ1.out.size)))
    rw [HSV1.out, hV1] at h
    exact ⟨f, g0, g1, g2, g3, g4, g5, g6, g7, (h.cell (p := ⟨w1.heap.size, 0, none⟩) (by simp; try omega)).trans (by simp [go_sem]), (h.cell (p := ⟨w1.heap.size, 1, none⟩) (by simp; try omega)).trans (by simp [go_sem])⟩)
  have B1 : Hid (w.heap.size < V1.heap.size ∧ w.heap.size + 1 < V1.heap.size ∧ w.heap.size + 1 + 1 < V1.heap.size ∧ w.heap.size + 1 + 1 + 1 < V1.heap.size ∧ w1.heap.size + 1 ≤ V1.heap.size) := Lib.hid (by rw [HSV1.out]; exact ⟨by omega, by omega, by omega, by omega, by omega⟩)
  clear k0 k1 k2 k3 k4 k5 k6 k7 l0 l1 l2 l3
  rw [← hV1]
  clear hV1
  obtain ⟨-, k0, k1, k2, k3, k4, k5, k6, k7, k8, k9⟩ := K1.out V1 (Below.refl V1.heap.size V1)
  have l0 : w.heap.size < V1.heap.size := by have := B1.out; have := ((Below.refl V1.heap.size V1)).size; omega
  have l1 : w.heap.size + 1 < V1.heap.size := by have := B1.out; have := ((Below.refl V1.heap.size V1)).size; omega
  have l2 : w.heap.size + 1 + 1 < V1.heap.size := by have := B1.out; have := ((Below.refl V1.heap.size V1)).size; omega
  have l3 : w.heap.size + 1 + 1 + 1 < V1.heap.size := by have := B1.out; have := ((Below.refl V1.heap.size V1)).size; omega
  have l4 : w1.heap.size < V1.heap.size := by have := B1.out; have := ((Below.refl V1.heap.size V1)).size; omega
  clear k0 k1 k2 k3 k4 k5 k6 k7 k8 k9 l0 l1 l2 l3 l4
  refine (in_any x' y' _).mono ?_
  rintro e2 w2 ⟨rfl, hb2⟩
  have HZ2 := Lib.hid hb2; clear hb2
  obtain ⟨-, k0, k1, k2, k3, k4, k5, k6, k7, k8, k9⟩ := K1.out w2 HZ2.out
  have l0 : w.heap.size < w2.heap.size := by have := B1.out; have := (HZ2.out).size; omega
  have l1 : w.heap.size + 1 < w2.heap.size := by have := B1.out; have := (HZ2.out).size; omega
  have l2 : w.heap.size + 1 + 1 < w2.heap.size := by have := B1.out; have := (HZ2.out).size; omega
  have l3 : w.heap.size + 1 + 1 + 1 < w2.heap.size := by have := B1.out; have := (HZ2.out).size; omega
  have l4 : w1.heap.size < w2.heap.size := by have := B1.out; have := (HZ2.out).size; omega
  go_wp2_with fail
  obtain ⟨V2, hV2⟩ : ∃ V : World, V = (((w2.alloc (.cells #[.float .f32 x', .float .f32 y'] 35)).alloc (.cells #[.float .f32 x, .float .f32 y] 39)).alloc (.cells #[.float .f32 x', .float .f32 y'] 39)) := ⟨_, rfl⟩
  have HSV2 : Hid (V2.heap.size = w2.heap.size + 3) := Lib.hid (by rw [hV2]; simp)
  have K2 : Hid (∀ w', Below V2.heap.size V2 w' → (Below w.heap.size w w' ∧ w'.cell? ⟨w.heap.size, 0, none⟩ = some (.int .u32 (x : Int)) ∧ w'.cell? ⟨w.heap.size, 1, none⟩ = some (.int .u32 (y : Int)) ∧ w'.cell? ⟨w.heap.size + 1, 0, none⟩ = some (.int .u32 (x' : Int)) ∧ w'.cell? ⟨w.heap.size + 1, 1, none⟩ = some (.int .u32 (y' : Int)) ∧ w'.cell? ⟨w.heap.size + 1 + 1, 0, none⟩ = some (.int .u64 (u : Int)) ∧ w'.cell? ⟨w.heap.size + 1 + 1, 1, none⟩ = some (.int .u64 (v : Int)) ∧ w'.cell? ⟨w.heap.size + 1 + 1 + 1, 0, none⟩ = some (.int .u64 (u' : Int)) ∧ w'.cell? ⟨w.heap.size + 1 + 1 + 1, 1, none⟩ = some (.int .u64 (v' : Int)) ∧ w'.cell? ⟨w1.heap.size, 0, none⟩ = some (.float .f32 x) ∧ w'.cell? ⟨w1.heap.size, 1, none⟩ = some (.float .f32 y) ∧ w'.cell? ⟨w2.heap.size, 0, none⟩ = some (.float .f32 x') ∧ w'.cell? ⟨w2.heap.size, 1, none⟩ = some (.float .f32 y') ∧ w'.cell? ⟨w2.heap.size + 1, 0, none⟩ = some (.float .f32 x) ∧ w'.cell? ⟨w2.heap.size + 1, 1, none⟩ = some (.float .f32 y) ∧ w'.cell? ⟨w2.heap.size + 1 + 1, 0, none⟩ = some (.float .f32 x') ∧ w'.cell? ⟨w2.heap.size + 1 + 1, 1, none⟩ = some (.float .f32 y'))) := Lib.hid (fun w' h => by
    have h0 : Below w2.heap.size w2 w' := (show Below w2.heap.size w2 V2 from by rw [hV2]; exact ((((Below.refl w2.heap.size w2).alloc (by simp; try omega) _).alloc (by simp; try omega) _).alloc (by simp; try omega) _)).trans (h.mono (by rw [HSV2.out]; omega))
    obtain ⟨f, g0, g1, g2, g3, g4, g5, g6, g7, g8, g9⟩ := (K1.out w' (HZ2.out.trans (h0.mono HZ2.out.size)))
    rw [HSV2.out, hV2] at h
    exact ⟨f, g0, g1, g2, g3, g4, g5, g6, g7, g8, g9, (h.cell (p := ⟨w2.heap.size, 0, none⟩) (by simp; try omega)).trans (by simp [go_sem]), (h.cell (p := ⟨w2.heap.size, 1, none⟩) (by simp; try omega)).trans (by simp [go_sem]), (h.cell (p := ⟨w2.heap.size + 1, 0, none⟩) (by simp; try omega)).trans (by simp [go_sem]), (h.cell (p := ⟨w2.heap.size + 1, 1, none⟩) (by simp; try omega)).trans (by simp [go_sem]), (h.cell (p := ⟨w2.heap.size + 1 + 1, 0, none⟩) (by simp; try omega)).trans (by simp [go_sem]), (h.cell (p := ⟨w2.heap.size + 1 + 1, 1, none⟩) (by simp; try omega)).trans (by simp [go_sem])⟩)
  have B2 : Hid (w.heap.size < V2.heap.size ∧ w.heap.size + 1 < V2.heap.size ∧ w.heap.size + 1 + 1 < V2.heap.size ∧ w.heap.size + 1 + 1 + 1 < V2.heap.size ∧ w1.heap.size < V2.heap.size ∧ w2.heap.size + 3 ≤ V2.heap.size) := Lib.hid (by rw [HSV2.out]; exact ⟨by omega, by omega, by omega, by omega, by omega, by omega⟩)
  clear k0 k1 k2 k3 k4 k5 k6 k7 k8 k9 l0 l1 l2 l3 l4
  rw [← hV2]
  clear hV2
  obtain ⟨-, k0, k1, k2, k3, k4, k5, k6, k7, k8, k9, k10, k11, k12, k13, k14, k15⟩ := K2.out V2 (Below.refl V2.heap.size V2)
  have l0 : w.heap.size < V2.heap.size := by have := B2.out; have := ((Below.refl V2.heap.size V2)).size; omega
  have l1 : w.heap.size + 1 < V2.heap.size := by have := B2.out; have := ((Below.refl V2.heap.size V2)).size; omega
  have l2 : w.heap.size + 1 + 1 < V2.heap.size := by have := B2.out; have := ((Below.refl V2.heap.size V2)).size; omega
  have l3 : w.heap.size + 1 + 1 + 1 < V2.heap.size := by have := B2.out; have := ((Below.refl V2.heap.size V2)).size; omega
  have l4 : w1.heap.size < V2.heap.size := by have := B2.out; have := ((Below.refl V2.heap.size V2)).size; omega
  have l5 : w2.heap.size < V2.heap.size := by have := B2.out; have := ((Below.refl V2.heap.size V2)).size; omega
  have l6 : w2.heap.size + 1 < V2.heap.size := by have := B2.out; have := ((Below.refl V2.heap.size V2)).size; omega
  have l7 : w2.heap.size + 1 + 1 < V2.heap.size := by have := B2.out; have := ((Below.refl V2.heap.size V2)).size; omega
  go_wp2_with fail
  refine region_quiet (by kernel_rfl) (by kernel_rfl) ?_
  repeat (go_big_quiet_step (first | (with_reducible exact qcall (MT.out _)) | (with_reducible exact qcall (JN.out _)) | (with_reducible exact qcall (M14.out _)) | (with_reducible exact qcall (J14.out _)) | (with_reducible exact qcall (out_any m1 m2 _)) | (with_reducible exact qcall (out_any j1 j2 _))))
  refine wpQuiet_nil ?_
  intro w3 hb3
  have HZ3 := Lib.hid hb3; clear hb3
  clear k0 k1 k2 k3 k4 k5 k6 k7 k8 k9 k10 k11 k12 k13 k14 k15 l0 l1 l2 l3 l4 l5 l6 l7
  have K3 : Hid (∀ w', Below w3.heap.size w3 w' → (Below w.heap.size w w' ∧ w'.cell? ⟨w.heap.size, 0, none⟩ = some (.int .u32 (x : Int)) ∧ w'.cell? ⟨w.heap.size, 1, none⟩ = some (.int .u32 (y : Int)) ∧ w'.cell? ⟨w.heap.size + 1, 0, none⟩ = some (.int .u32 (x' : Int)) ∧ w'.cell? ⟨w.heap.size + 1, 1, none⟩ = some (.int .u32 (y' : Int)) ∧ w'.cell? ⟨w.heap.size + 1 + 1, 0, none⟩ = some (.int .u64 (u : Int)) ∧ w'.cell? ⟨w.heap.size + 1 + 1, 1, none⟩ = some (.int .u64 (v : Int)) ∧ w'.cell? ⟨w.heap.size + 1 + 1 + 1, 0, none⟩ = some (.int .u64 (u' : Int)) ∧ w'.cell? ⟨w.heap.size + 1 + 1 + 1, 1, none⟩ = some (.int .u64 (v' : Int)) ∧ w'.cell? ⟨w1.heap.size, 0, none⟩ = some (.float .f32 x) ∧ w'.cell? ⟨w1.heap.size, 1, none⟩ = some (.float .f32 y) ∧ w'.cell? ⟨w2.heap.size, 0, none⟩ = some (.float .f32 x') ∧ w'.cell? ⟨w2.heap.size, 1, none⟩ = some (.float .f32 y') ∧ w'.cell? ⟨w2.heap.size + 1, 0, none⟩ = some (.float .f32 x) ∧ w'.cell? ⟨w2.heap.size + 1, 1, none⟩ = some (.float .f32 y) ∧ w'.cell? ⟨w2.heap.size + 1 + 1, 0, none⟩ = some (.float .f32 x') ∧ w'.cell? ⟨w2.heap.size + 1 + 1, 1, none⟩ = some (.float .f32 y'))) := Lib.hid (fun w' h => K2.out w' (HZ3.out.trans (h.mono HZ3.out.size)))
  have B3 : Hid (w.heap.size < w3.heap.size ∧ w.heap.size + 1 < w3.heap.size ∧ w.heap.size + 1 + 1 < w3.heap.size ∧ w.heap.size + 1 + 1 + 1 < w3.heap.size ∧ w1.heap.size < w3.heap.size ∧ w2.heap.size < w3.heap.size ∧ w2.heap.size + 1 < w3.heap.size ∧ w2.heap.size + 1 + 1 < w3.heap.size) := Lib.hid (by have := B2.out; have := HZ3.out.size; exact ⟨by omega, by omega, by omega, by omega, by omega, by omega, by omega, by omega⟩)
  obtain ⟨V3, hV3⟩ : ∃ V : World, V = w3 := ⟨_, rfl⟩
  subst hV3
  obtain ⟨-, k0, k1, k2, k3, k4, k5, k6, k7, k8, k9, k10, k11, k12, k13, k14, k15⟩ := K3.out V3 (Below.refl V3.heap.size V3)
  have l0 : w.heap.size < V3.heap.size := by have := B3.out; have := ((Below.refl V3.heap.size V3)).size; omega
  have l1 : w.heap.size + 1 < V3.heap.size := by have := B3.out; have := ((Below.refl V3.heap.size V3)).size; omega
  have l2 : w.heap.size + 1 + 1 < V3.heap.size := by have := B3.out; have := ((Below.refl V3.heap.size V3)).size; omega
  have l3 : w.heap.size + 1 + 1 + 1 < V3.heap.size := by have := B3.out; have := ((Below.refl V3.heap.size V3)).size; omega
  have l4 : w1.heap.size < V3.heap.size := by have := B3.out; have := ((Below.refl V3.heap.size V3)).size; omega
  have l5 : w2.heap.size < V3.heap.size := by have := B3.out; have := ((Below.refl V3.heap.size V3)).size; omega
  have l6 : w2.heap.size + 1 < V3.heap.size := by have := B3.out; have := ((Below.refl V3.heap.size V3)).size; omega
  have l7 : w2.heap.size + 1 + 1 < V3.heap.size := by have := B3.out; have := ((Below.refl V3.heap.size V3)).size; omega
  go_wp2_with fail
  clear k0 k1 k2 k3 k4 k5 k6 k7 k8 k9 k10 k11 k12 k13 k14 k15 l0 l1 l2 l3 l4 l5 l6 l7
  refine (MR.out _).mono ?_
  rintro e4 w4 ⟨rfl, hb4⟩
  have HZ4 := Lib.hid hb4; clear hb4
  obtain ⟨-, k0, k1, k2, k3, k4, k5, k6, k7, k8, k9, k10, k11, k12, k13, k14, k15⟩ := K3.out w4 HZ4.out
  have l0 : w.heap.size < w4.heap.size := by have := B3.out; have := (HZ4.out).size; omega
  have l1 : w.heap.size + 1 < w4.heap.size := by have := B3.out; have := (HZ4.out).size; omega
  have l2 : w.heap.size + 1 + 1 < w4.heap.size := by have := B3.out; have := (HZ4.out).size; omega
  have l3 : w.heap.size + 1 + 1 + 1 < w4.heap.size := by have := B3.out; have := (HZ4.out).size; omega
  have l4 : w1.heap.size < w4.heap.size := by have := B3.out; have := (HZ4.out).size; omega
  have l5 : w2.heap.size < w4.heap.size := by have := B3.out; have := (HZ4.out).size; omega
  have l6 : w2.heap.size + 1 < w4.heap.size := by have := B3.out; have := (HZ4.out).size; omega
  have l7 : w2.heap.size + 1 + 1 < w4.heap.size := by have := B3.out; have := (HZ4.out).size; omega
  go_wp2_with fail
  obtain ⟨V4, hV4⟩ : ∃ V : World, V = (w4.alloc (.cells #[.float .f32 m1, .float .f32 m2] 45)) := ⟨_, rfl⟩
  have HSV4 : Hid (V4.heap.size = w4.heap.size + 1) := Lib.hid (by rw [hV4]; simp)
  have K4 : Hid (∀ w', Below V4.heap.size V4 w' → (Below w.heap.size w w' ∧ w'.cell? ⟨w.heap.size, 0, none⟩ = some (.int .u32 (x : Int)) ∧ w'.cell? ⟨w.heap.size, 1, none⟩ = some (.int .u32 (y : Int)) ∧ w'.cell? ⟨w.heap.size + 1, 0, none⟩ = some (.int .u32 (x' : Int)) ∧ w'.cell? ⟨w.heap.size + 1, 1, none⟩ = some (.int .u32 (y' : Int)) ∧ w'.cell? ⟨w.heap.size + 1 + 1, 0, none⟩ = some (.int .u64 (u : Int)) ∧ w'.cell? ⟨w.heap.size + 1 + 1, 1, none⟩ = some (.int .u64 (v : Int)) ∧ w'.cell? ⟨w.heap.size + 1 + 1 + 1, 0, none⟩ = some (.int .u64 (u' : Int)) ∧ w'.cell? ⟨w.heap.size + 1 + 1 + 1, 1, none⟩ = some (.int .u64 (v' : Int)) ∧ w'.cell? ⟨w1.heap.size, 0, none⟩ = some (.float .f32 x) ∧ w'.cell? ⟨w1.heap.size, 1, none⟩ = some (.float .f32 y) ∧ w'.cell? ⟨w2.heap.size, 0, none⟩ = some (.float .f32 x') ∧ w'.cell? ⟨w2.heap.size, 1, none⟩ = some (.float .f32 y') ∧ w'.cell? ⟨w2.heap.size + 1, 0, none⟩ = some (.float .f32 x) ∧ w'.cell? ⟨w2.heap.size + 1, 1, none⟩ = some (.float .f32 y) ∧ w'.cell? ⟨w2.heap.size + 1 + 1, 0, none⟩ = some (.float .f32 x') ∧ w'.cell? ⟨w2.heap.size + 1 + 1, 1, none⟩ = some (.float .f32 y') ∧ w'.cell? ⟨w4.heap.size, 0, none⟩ = some (.float .f32 m1) ∧ w'.cell? ⟨w4.heap.size, 1, none⟩ = some (.float .f32 m2))) := Lib.hid (fun w' h => by
    have h0 : Below w4.heap.size w4 w' := (show Below w4.heap.size w4 V4 from by rw [hV4]; exact ((Below.refl w4.heap.size w4).alloc (by simp; try omega) _)).trans (h.mono (by rw [HSV4.out]; omega))
    obtain ⟨f, g0, g1, g2, g3, g4, g5, g6, g7, g8, g9, g10, g11, g12, g13, g14, g15⟩ := (K3.out w' (HZ4.out.trans (h0.mono HZ4.out.size)))
    rw [HSV4.out, hV4] at h
    exact ⟨f, g0, g1, g2, g3, g4, g5, g6, g7, g8, g9, g10, g11, g12, g13, g14, g15, (h.cell (p := ⟨w4.heap.size, 0, none⟩) (by simp; try omega)).trans (by simp [go_sem]), (h.cell (p := ⟨w4.heap.size, 1, none⟩) (by simp; try omega)).trans (by simp [go_sem])⟩)
  have B4 : Hid (w.heap.size < V4.heap.size ∧ w.heap.size + 1 < V4.heap.size ∧ w.heap.size + 1 + 1 < V4.heap.size ∧ w.heap.size + 1 + 1 + 1 < V4.heap.size ∧ w1.heap.size < V4.heap.size ∧ w2.heap.size < V4.heap.size ∧ w2.heap.size + 1 < V4.heap.size ∧ w2.heap.size + 1 + 1 < V4.heap.size ∧ w4.heap.size + 1 ≤ V4.heap.size) := Lib.hid (by rw [HSV4.out]; exact ⟨by omega, by omega, by omega, by omega, by omega, by omega, by omega, by omega, by omega⟩)
  clear k0 k1 k2 k3 k4 k5 k6 k7 k8 k9 k10 k11 k12 k13 k14 k15 l0 l1 l2 l3 l4 l5 l6 l7
  rw [← hV4]
  clear hV4
  obtain ⟨-, k0, k1, k2, k3, k4, k5, k6, k7, k8, k9, k10, k11, k12, k13, k14, k15, k16, k17⟩ := K4.out V4 (Below.refl V4.heap.size V4)
  have l0 : w.heap.size < V4.heap.size := by have := B4.out; have := ((Below.refl V4.heap.size V4)).size; omega
  have l1 : w.heap.size + 1 < V4.heap.size := by have := B4.out; have := ((Below.refl V4.heap.size V4)).size; omega
  have l2 : w.heap.size + 1 + 1 < V4.heap.size := by have := B4.out; have := ((Below.refl V4.heap.size V4)).size; omega
  have l3 : w.heap.size + 1 + 1 + 1 < V4.heap.size := by have := B4.out; have := ((Below.refl V4.heap.size V4)).size; omega
  have l4 : w1.heap.size < V4.heap.size := by have := B4.out; have := ((Below.refl V4.heap.size V4)).size; omega
  have l5 : w2.heap.size < V4.heap.size := by have := B4.out; have := ((Below.refl V4.heap.size V4)).size; omega
  have l6 : w2.heap.size + 1 < V4.heap.size := by have := B4.out; have := ((Below.refl V4.heap.size V4)).size; omega
  have l7 : w2.heap.size + 1 + 1 < V4.heap.size := by have := B4.out; have := ((Below.refl V4.heap.size V4)).size; omega
  have l8 : w4.heap.size < V4.heap.size := by have := B4.out; have := ((Below.refl V4.heap.size V4)).size; omega
  go_wp2_with fail
  clear k0 k1 k2 k3 k4 k5 k6 k7 k8 k9 k10 k11 k12 k13 k14 k15 k16 k17 l0 l1 l2 l3 l4 l5 l6 l7 l8
  refine (JR.out _).mono ?_
  rintro e5 w5 ⟨rfl, hb5⟩
  have HZ5 := Lib.hid hb5; clear hb5
  obtain ⟨-, k0, k1, k2, k3, k4, k5, k6, k7, k8, k9, k10, k11, k12, k13, k14, k15, k16, k17⟩ := K4.out w5 HZ5.out
  have l0 : w.heap.size < w5.heap.size := by have := B4.out; have := (HZ5.out).size; omega
  have l1 : w.heap.size + 1 < w5.heap.size := by have := B4.out; have := (HZ5.out).size; omega
  have l2 : w.heap.size + 1 + 1 < w5.heap.size := by have := B4.out; have := (HZ5.out).size; omega
  have l3 : w.heap.size + 1 + 1 + 1 < w5.heap.size := by have := B4.out; have := (HZ5.out).size; omega
  have l4 : w1.heap.size < w5.heap.size := by have := B4.out; have := (HZ5.out).size; omega
  have l5 : w2.heap.size < w5.heap.size := by have := B4.out; have := (HZ5.out).size; omega
  have l6 : w2.heap.size + 1 < w5.heap.size := by have := B4.out; have := (HZ5.out).size; omega
  have l7 : w2.heap.size + 1 + 1 < w5.heap.size := by have := B4.out; have := (HZ5.out).size; omega
  have l8 : w4.heap.size < w5.heap.size := by have := B4.out; have := (HZ5.out).size; omega
  go_wp2_with fail
  obtain ⟨V5, hV5⟩ : ∃ V : World, V = (w5.alloc (.cells #[.float .f32 j1, .float .f32 j2] 45)) := ⟨_, rfl⟩
  have HSV5 : Hid (V5.heap.size = w5.heap.size + 1) := Lib.hid (by rw [hV5]; simp)
  have K5 : Hid (∀ w', Below V5.heap.size V5 w' → (Below w.heap.size w w' ∧ w'.cell? ⟨w.heap.size, 0, none⟩ = some (.int .u32 (x : Int)) ∧ w'.cell? ⟨w.heap.size, 1, none⟩ = some (.int .u32 (y : Int)) ∧ w'.cell? ⟨w.heap.size + 1, 0, none⟩ = some (.int .u32 (x' : Int)) ∧ w'.cell? ⟨w.heap.size + 1, 1, none⟩ = some (.int .u32 (y' : Int)) ∧ w'.cell? ⟨w.heap.size + 1 + 1, 0, none⟩ = some (.int .u64 (u : Int)) ∧ w'.cell? ⟨w.heap.size + 1 + 1, 1, none⟩ = some (.int .u64 (v : Int)) ∧ w'.cell? ⟨w.heap.size + 1 + 1 + 1, 0, none⟩ = some (.int .u64 (u' : Int)) ∧ w'.cell? ⟨w.heap.size + 1 + 1 + 1, 1, none⟩ = some (.int .u64 (v' : Int)) ∧ w'.cell? ⟨w1.heap.size, 0, none⟩ = some (.float .f32 x) ∧ w'.cell? ⟨w1.heap.size, 1, none⟩ = some (.float .f32 y) ∧ w'.cell? ⟨w2.heap.size, 0, none⟩ = some (.float .f32 x') ∧ w'.cell? ⟨w2.heap.size, 1, none⟩ = some (.float .f32 y') ∧ w'.cell? ⟨w2.heap.size + 1, 0, none⟩ = some (.float .f32 x) ∧ w'.cell? ⟨w2.heap.size + 1, 1, none⟩ = some (.float .f32 y) ∧ w'.cell? ⟨w2.heap.size + 1 + 1, 0, none⟩ = some (.float .f32 x') ∧ w'.cell? ⟨w2.heap.size + 1 + 1, 1, none⟩ = some (.float .f32 y') ∧ w'.cell? ⟨w4.heap.size, 0, none⟩ = some (.float .f32 m1) ∧ w'.cell? ⟨w4.heap.size, 1, none⟩ = some (.float .f32 m2) ∧ w'.cell? ⟨w5.heap.size, 0, none⟩ = some (.float .f32 j1) ∧ w'.cell? ⟨w5.heap.size, 1, none⟩ = some (.float .f32 j2))) := Lib.hid (fun w' h => by
    have h0 : Below w5.heap.size w5 w' := (show Below w5.heap.size w5 V5 from by rw [hV5]; exact ((Below.refl w5.heap.size w5).alloc (by simp; try omega) _)).trans (h.mono (by rw [HSV5.out]; omega))
    obtain ⟨f, g0, g1, g2, g3, g4, g5, g6, g7, g8, g9, g10, g11, g12, g13, g14, g15, g16, g17⟩ := (K4.out w' (HZ5.out.trans (h0.mono HZ5.out.size)))
    rw [HSV5.out, hV5] at h
    exact ⟨f, g0, g1, g2, g3, g4, g5, g6, g7, g8, g9, g10, g11, g12, g13, g14, g15, g16, g17, (h.cell (p := ⟨w5.heap.size, 0, none⟩) (by simp; try omega)).trans (by simp [go_sem]), (h.cell (p := ⟨w5.heap.size, 1, none⟩) (by simp; try omega)).trans (by simp [go_sem])⟩)
  have B5 : Hid (w.heap.size < V5.heap.size ∧ w.heap.size + 1 < V5.heap.size ∧ w.heap.size + 1 + 1 < V5.heap.size ∧ w.heap.size + 1 + 1 + 1 < V5.heap.size ∧ w1.heap.size < V5.heap.size ∧ w2.heap.size < V5.heap.size ∧ w2.heap.size + 1 < V5.heap.size ∧ w2.heap.size + 1 + 1 < V5.heap.size ∧ w4.heap.size < V5.heap.size ∧ w5.heap.size + 1 ≤ V5.heap.size) := Lib.hid (by rw [HSV5.out]; exact ⟨by omega, by omega, by omega, by omega, by omega, by omega, by omega, by omega, by omega, by omega⟩)
  clear k0 k1 k2 k3 k4 k5 k6 k7 k8 k9 k10 k11 k12 k13 k14 k15 k16 k17 l0 l1 l2 l3 l4 l5 l6 l7 l8
  rw [← hV5]
  clear hV5
  obtain ⟨-, k0, k1, k2, k3, k4, k5, k6, k7, k8, k9, k10, k11, k12, k13, k14, k15, k16, k17, k18, k19⟩ := K5.out V5 (Below.refl V5.heap.size V5)
  have l0 : w.heap.size < V5.heap.size := by have := B5.out; have := ((Below.refl V5.heap.size V5)).size; omega
  have l1 : w.heap.size + 1 < V5.heap.size := by have := B5.out; have := ((Below.refl V5.heap.size V5)).size; omega
  have l2 : w.heap.size + 1 + 1 < V5.heap.size := by have := B5.out; have := ((Below.refl V5.heap.size V5)).size; omega
  have l3 : w.heap.size + 1 + 1 + 1 < V5.heap.size := by have := B5.out; have := ((Below.refl V5.heap.size V5)).size; omega
  have l4 : w1.heap.size < V5.heap.size := by have := B5.out; have := ((Below.refl V5.heap.size V5)).size; omega
  have l5 : w2.heap.size < V5.heap.size := by have := B5.out; have := ((Below.refl V5.heap.size V5)).size; omega
  have l6 : w2.heap.size + 1 < V5.heap.size := by have := B5.out; have := ((Below.refl V5.heap.size V5)).size; omega
  have l7 : w2.heap.size + 1 + 1 < V5.heap.size := by have := B5.out; have := ((Below.refl V5.heap.size V5)).size; omega
  have l8 : w4.heap.size < V5.heap.size := by have := B5.out; have := ((Below.refl V5.heap.size V5)).size; omega
  have l9 : w5.heap.size < V5.heap.size := by have := B5.out; have := ((Below.refl V5.heap.size V5)).size; omega
  go_wp2_with fail
  refine region_quiet (by kernel_rfl) (by kernel_rfl) ?_
  repeat (go_big_quiet_step (first | (with_reducible exact qcall (of14_any m1 m2 _)) | (with_reducible exact qcall (of14_any j1 j2 _)) | (with_reducible exact qcall (M14.out _)) | (with_reducible exact qcall (J14.out _)) | (with_reducible exact qcall (out_any m1 m2 _)) | (with_reducible exact qcall (out_any j1 j2 _))))
  refine wpQuiet_nil ?_
  intro w6 hb6
  have HZ6 := Lib.hid hb6; clear hb6
  clear k0 k1 k2 k3 k4 k5 k6 k7 k8 k9 k10 k11 k12 k13 k14 k15 k16 k17 k18 k19 l0 l1 l2 l3 l4 l5 l6 l7 l8 l9
  have K6 : Hid (∀ w', Below w6.heap.size w6 w' → (Below w.heap.size w w' ∧ w'.cell? ⟨w.heap.size, 0, none⟩ = some (.int .u32 (x : Int)) ∧ w'.cell? ⟨w.heap.size, 1, none⟩ = some (.int .u32 (y : Int)) ∧ w'.cell? ⟨w.heap.size + 1, 0, none⟩ = some (.int .u32 (x' : Int)) ∧ w'.cell? ⟨w.heap.size + 1, 1, none⟩ = some (.int .u32 (y' : Int)) ∧ w'.cell? ⟨w.heap.size + 1 + 1, 0, none⟩ = some (.int .u64 (u : Int)) ∧ w'.cell? ⟨w.heap.size + 1 + 1, 1, none⟩ = some (.int .u64 (v : Int)) ∧ w'.cell? ⟨w.heap.size + 1 + 1 + 1, 0, none⟩ = some (.int .u64 (u' : Int)) ∧ w'.cell? ⟨w.heap.size + 1 + 1 + 1, 1, none⟩ = some (.int .u64 (v' : Int)) ∧ w'.cell? ⟨w1.heap.size, 0, none⟩ = some (.float .f32 x) ∧ w'.cell? ⟨w1.heap.size, 1, none⟩ = some (.float .f32 y) ∧ w'.cell? ⟨w2.heap.size, 0, none⟩ = some (.float .f32 x') ∧ w'.cell? ⟨w2.heap.size, 1, none⟩ = some (.float .f32 y') ∧ w'.cell? ⟨w2.heap.size + 1, 0, none⟩ = some (.float .f32 x) ∧ w'.cell? ⟨w2.heap.size + 1, 1, none⟩ = some (.float .f32 y) ∧ w'.cell? ⟨w2.heap.size + 1 + 1, 0, none⟩ = some (.float .f32 x') ∧ w'.cell? ⟨w2.heap.size + 1 + 1, 1, none⟩ = some (.float .f32 y') ∧ w'.cell? ⟨w4.heap.size, 0, none⟩ = some (.float .f32 m1) ∧ w'.cell? ⟨w4.heap.size, 1, none⟩ = some (.float .f32 m2) ∧ w'.cell? ⟨w5.heap.size, 0, none⟩ = some (.float .f32 j1) ∧ w'.cell? ⟨w5.heap.size, 1, none⟩ = some (.float .f32 j2))) := Lib.hid (fun w' h => K5.out w' (HZ6.out.trans (h.mono HZ6.out.size)))
  have B6 : Hid (w.heap.size < w6.heap.size ∧ w.heap.size + 1 < w6.heap.size ∧ w.heap.size + 1 + 1 < w6.heap.size ∧ w.heap.size + 1 + 1 + 1 < w6.heap.size ∧ w1.heap.size < w6.heap.size ∧ w2.heap.size < w6.heap.size ∧ w2.heap.size + 1 < w6.heap.size ∧ w2.heap.size + 1 + 1 < w6.heap.size ∧ w4.heap.size < w6.heap.size ∧ w5.heap.size < w6.heap.size) := Lib.hid (by have := B5.out; have := HZ6.out.size; exact ⟨by omega, by omega, by omega, by omega, by omega, by omega, by omega, by omega, by omega, by omega⟩)
  obtain ⟨V6, hV6⟩ : ∃ V : World, V = w6 := ⟨_, rfl⟩
  subst hV6
  obtain ⟨-, k0, k1, k2, k3, k4, k5, k6, k7, k8, k9, k10, k11, k12, k13, k14, k15, k16, k17, k18, k19⟩ := K6.out V6 (Below.refl V6.heap.size V6)
  have l0 : w.heap.size < V6.heap.size := by have := B6.out; have := ((Below.refl V6.heap.size V6)).size; omega
  have l1 : w.heap.size + 1 < V6.heap.size := by have := B6.out; have := ((Below.refl V6.heap.size V6)).size; omega
  have l2 : w.heap.size + 1 + 1 < V6.heap.size := by have := B6.out; have := ((Below.refl V6.heap.size V6)).size; omega
  have l3 : w.heap.size + 1 + 1 + 1 < V6.heap.size := by have := B6.out; have := ((Below.refl V6.heap.size V6)).size; omega
  have l4 : w1.heap.size < V6.heap.size := by have := B6.out; have := ((Below.refl V6.heap.size V6)).size; omega
  have l5 : w2.heap.size < V6.heap.size := by have := B6.out; have := ((Below.refl V6.heap.size V6)).size; omega
  have l6 : w2.heap.size + 1 < V6.heap.size := by have := B6.out; have := ((Below.refl V6.heap.size V6)).size; omega
  have l7 : w2.heap.size + 1 + 1 < V6.heap.size := by have := B6.out; have := ((Below.refl V6.heap.size V6)).size; omega
  have l8 : w4.heap.size < V6.heap.size := by have := B6.out; have := ((Below.refl V6.heap.size V6)).size; omega
  have l9 : w5.heap.size < V6.heap.size := by have := B6.out; have := ((Below.refl V6.heap.size V6)).size; omega
  go_wp2_with fail
  clear k0 k1 k2 k3 k4 k5 k6 k7 k8 k9 k10 k11 k12 k13 k14 k15 k16 k17 k18 k19 l0 l1 l2 l3 l4 l5 l6 l7 l8 l9
  refine (inLong_any u v _).mono ?_
  rintro e7 w7 ⟨rfl, hb7⟩
  have HZ7 := Lib.hid hb7; clear hb7
  obtain ⟨-, k0, k1, k2, k3, k4, k5, k6, k7, k8, k9, k10, k11, k12, k13, k14, k15, k16, k17, k18, k19⟩ := K6.out w7 HZ7.out
  have l0 : w.heap.size < w7.heap.size := by have := B6.out; have := (HZ7.out).size; omega
  have l1 : w.heap.size + 1 < w7.heap.size := by have := B6.out; have := (HZ7.out).size; omega
  have l2 : w.heap.size + 1 + 1 < w7.heap.size := by have := B6.out; have := (HZ7.out).size; omega
  have l3 : w.heap.size + 1 + 1 + 1 < w7.heap.size := by have := B6.out; have := (HZ7.out).size; omega
  have l4 : w1.heap.size < w7.heap.size := by have := B6.out; have := (HZ7.out).size; omega
  have l5 : w2.heap.size < w7.heap.size := by have := B6.out; have := (HZ7.out).size; omega
  have l6 : w2.heap.size + 1 < w7.heap.size := by have := B6.out; have := (HZ7.out).size; omega
  have l7 : w2.heap.size + 1 + 1 < w7.heap.size := by have := B6.out; have := (HZ7.out).size; omega
  have l8 : w4.heap.size < w7.heap.size := by have := B6.out; have := (HZ7.out).size; omega
  have l9 : w5.heap.size < w7.heap.size := by have := B6.out; have := (HZ7.out).size; omega
  go_wp2_with fail
  obtain ⟨V7, hV7⟩ : ∃ V : World, V = (w7.alloc (.cells #[.float .f64 u, .float .f64 v] 31)) := ⟨_, rfl⟩
  have HSV7 : Hid (V7.heap.size = w7.heap.size + 1) := Lib.hid (by rw [hV7]; simp)
  have K7 : Hid (∀ w', Below V7.heap.size V7 w' → (Below w.heap.size w w' ∧ w'.cell? ⟨w.heap.size, 0, none⟩ = some (.int .u32 (x : Int)) ∧ w'.cell? ⟨w.heap.size, 1, none⟩ = some (.int .u32 (y : Int)) ∧ w'.cell? ⟨w.heap.size + 1, 0, none⟩ = some (.int .u32 (x' : Int)) ∧ w'.cell? ⟨w.heap.size + 1, 1, none⟩ = some (.int .u32 (y' : Int)) ∧ w'.cell? ⟨w.heap.size + 1 + 1, 0, none⟩ = some (.int .u64 (u : Int)) ∧ w'.cell? ⟨w.heap.size + 1 + 1, 1, none⟩ = some (.int .u64 (v : Int)) ∧ w'.cell? ⟨w.heap.size + 1 + 1 + 1, 0, none⟩ = some (.int .u64 (u' : Int)) ∧ w'.cell? ⟨w.heap.size + 1 + 1 + 1, 1, none⟩ = some (.int .u64 (v' : Int)) ∧ w'.cell? ⟨w1.heap.size, 0, none⟩ = some (.float .f32 x) ∧ w'.cell? ⟨w1.heap.size, 1, none⟩ = some (.float .f32 y) ∧ w'.cell? ⟨w2.heap.size, 0, none⟩ = some (.float .f32 x') ∧ w'.cell? ⟨w2.heap.size, 1, none⟩ = some (.float .f32 y') ∧ w'.cell? ⟨w2.heap.size + 1, 0, none⟩ = some (.float .f32 x) ∧ w'.cell? ⟨w2.heap.size + 1, 1, none⟩ = some (.float .f32 y) ∧ w'.cell? ⟨w2.heap.size + 1 + 1, 0, none⟩ = some (.float .f32 x') ∧ w'.cell? ⟨w2.heap.size + 1 + 1, 1, none⟩ = some (.float .f32 y') ∧ w'.cell? ⟨w4.heap.size, 0, none⟩ = some (.float .f32 m1) ∧ w'.cell? ⟨w4.heap.size, 1, none⟩ = some (.float .f32 m2) ∧ w'.cell? ⟨w5.heap.size, 0, none⟩ = some (.float .f32 j1) ∧ w'.cell? ⟨w5.heap.size, 1, none⟩ = some (.float .f32 j2) ∧ w'.cell? ⟨w7.heap.size, 0, none⟩ = some (.float .f64 u) ∧ w'.cell? ⟨w7.heap.size, 1, none⟩ = some (.float .f64 v))) := Lib.hid (fun w' h => by
    have h0 : Below w7.heap.size w7 w' := (show Below w7.heap.size w7 V7 from by rw [hV7]; exact ((Below.refl w7.heap.size w7).alloc (by simp; try omega) _)).trans (h.mono (by rw [HSV7.out]; omega))
    obtain ⟨f, g0, g1, g2, g3, g4, g5, g6, g7, g8, g9, g10, g11, g12, g13, g14, g15, g16, g17, g18, g19⟩ := (K6.out w' (HZ7.out.trans (h0.mono HZ7.out.size)))
    rw [HSV7.out, hV7] at h
    exact ⟨f, g0, g1, g2, g3, g4, g5, g6, g7, g8, g9, g10, g11, g12, g13, g14, g15, g16, g17, g18, g19, (h.cell (p := ⟨w7.heap.size, 0, none⟩) (by simp; try omega)).trans (by simp [go_sem]), (h.cell (p := ⟨w7.heap.size, 1, none⟩) (by simp; try omega)).trans (by simp [go_sem])⟩)
  have B7 : Hid (w.heap.size < V7.heap.size ∧ w.heap.size + 1 < V7.heap.size ∧ w.heap.size + 1 + 1 < V7.heap.size ∧ w.heap.size + 1 + 1 + 1 < V7.heap.size ∧ w1.heap.size < V7.heap.size ∧ w2.heap.size < V7.heap.size ∧ w2.heap.size + 1 < V7.heap.size ∧ w2.heap.size + 1 + 1 < V7.heap.size ∧ w4.heap.size < V7.heap.size ∧ w5.heap.size < V7.heap.size ∧ w7.heap.size + 1 ≤ V7.heap.size) := Lib.hid (by rw [HSV7.out]; exact ⟨by omega, by omega, by omega, by omega, by omega, by omega, by omega, by omega, by omega, by omega, by omega⟩)
  clear k0 k1 k2 k3 k4 k5 k6 k7 k8 k9 k10 k11 k12 k13 k14 k15 k16 k17 k18 k19 l0 l1 l2 l3 l4 l5 l6 l7 l8 l9
  rw [← hV7]
  clear hV7
  obtain ⟨-, k0, k1, k2, k3, k4, k5, k6, k7, k8, k9, k10, k11, k12, k13, k14, k15, k16, k17, k18, k19, k20, k21⟩ := K7.out V7 (Below.refl V7.heap.size V7)
  have l0 : w.heap.size < V7.heap.size := by have := B7.out; have := ((Below.refl V7.heap.size V7)).size; omega
  have l1 : w.heap.size + 1 < V7.heap.size := by have := B7.out; have := ((Below.refl V7.heap.size V7)).size; omega
  have l2 : w.heap.size + 1 + 1 < V7.heap.size := by have := B7.out; have := ((Below.refl V7.heap.size V7)).size; omega
  have l3 : w.heap.size + 1 + 1 + 1 < V7.heap.size := by have := B7.out; have := ((Below.refl V7.heap.size V7)).size; omega
  have l4 : w1.heap.size < V7.heap.size := by have := B7.out; have := ((Below.refl V7.heap.size V7)).size; omega
  have l5 : w2.heap.size < V7.heap.size := by have := B7.out; have := ((Below.refl V7.heap.size V7)).size; omega
  have l6 : w2.heap.size + 1 < V7.heap.size := by have := B7.out; have := ((Below.refl V7.heap.size V7)).size; omega
  have l7 : w2.heap.size + 1 + 1 < V7.heap.size := by have := B7.out; have := ((Below.refl V7.heap.size V7)).size; omega
  have l8 : w4.heap.size < V7.heap.size := by have := B7.out; have := ((Below.refl V7.heap.size V7)).size; omega
  have l9 : w5.heap.size < V7.heap.size := by have := B7.out; have := ((Below.refl V7.heap.size V7)).size; omega
  have l10 : w7.heap.size < V7.heap.size := by have := B7.out; have := ((Below.refl V7.heap.size V7)).size; omega
  go_wp2_with fail
  clear k0 k1 k2 k3 k4 k5 k6 k7 k8 k9 k10 k11 k12 k13 k14 k15 k16 k17 k18 k19 k20 k21 l0 l1 l2 l3 l4 l5 l6 l7 l8 l9 l10
  refine (inLong_any u' v' _).mono ?_
  rintro e8 w8 ⟨rfl, hb8⟩
  have HZ8 := Lib.hid hb8; clear hb8
  obtain ⟨-, k0, k1, k2, k3, k4, k5, k6, k7, k8, k9, k10, k11, k12, k13, k14, k15, k16, k17, k18, k19, k20, k21⟩ := K7.out w8 HZ8.out
  have l0 : w.heap.size < w8.heap.size := by have := B7.out; have := (HZ8.out).size; omega
  have l1 : w.heap.size + 1 < w8.heap.size := by have := B7.out; have := (HZ8.out).size; omega
  have l2 : w.heap.size + 1 + 1 < w8.heap.size := by have := B7.out; have := (HZ8.out).size; omega
  have l3 : w.heap.size + 1 + 1 + 1 < w8.heap.size := by have := B7.out; have := (HZ8.out).size; omega
  have l4 : w1.heap.size < w8.heap.size := by have := B7.out; have := (HZ8.out).size; omega
  have l5 : w2.heap.size < w8.heap.size := by have := B7.out; have := (HZ8.out).size; omega
  have l6 : w2.heap.size + 1 < w8.heap.size := by have := B7.out; have := (HZ8.out).size; omega
  have l7 : w2.heap.size + 1 + 1 < w8.heap.size := by have := B7.out; have := (HZ8.out).size; omega
  have l8 : w4.heap.size < w8.heap.size := by have := B7.out; have := (HZ8.out).size; omega
  have l9 : w5.heap.size < w8.heap.size := by have := B7.out; have := (HZ8.out).size; omega
  have l10 : w7.heap.size < w8.heap.size := by have := B7.out; have := (HZ8.out).size; omega
  go_wp2_with fail
  obtain ⟨V8, hV8⟩ : ∃ V : World, V = (w8.alloc (.cells #[.float .f64 u', .float .f64 v'] 31)) := ⟨_, rfl⟩
  have HSV8 : Hid (V8.heap.size = w8.heap.size + 1) := Lib.hid (by rw [hV8]; simp)
  have K8 : Hid (∀ w', Below V8.heap.size V8 w' → (Below w.heap.size w w' ∧ w'.cell? ⟨w.heap.size, 0, none⟩ = some (.int .u32 (x : Int)) ∧ w'.cell? ⟨w.heap.size, 1, none⟩ = some (.int .u32 (y : Int)) ∧ w'.cell? ⟨w.heap.size + 1, 0, none⟩ = some (.int .u32 (x' : Int)) ∧ w'.cell? ⟨w.heap.size + 1, 1, none⟩ = some (.int .u32 (y' : Int)) ∧ w'.cell? ⟨w.heap.size + 1 + 1, 0, none⟩ = some (.int .u64 (u : Int)) ∧ w'.cell? ⟨w.heap.size + 1 + 1, 1, none⟩ = some (.int .u64 (v : Int)) ∧ w'.cell? ⟨w.heap.size + 1 + 1 + 1, 0, none⟩ = some (.int .u64 (u' : Int)) ∧ w'.cell? ⟨w.heap.size + 1 + 1 + 1, 1, none⟩ = some (.int .u64 (v' : Int)) ∧ w'.cell? ⟨w1.heap.size, 0, none⟩ = some (.float .f32 x) ∧ w'.cell? ⟨w1.heap.size, 1, none⟩ = some (.float .f32 y) ∧ w'.cell? ⟨w2.heap.size, 0, none⟩ = some (.float .f32 x') ∧ w'.cell? ⟨w2.heap.size, 1, none⟩ = some (.float .f32 y') ∧ w'.cell? ⟨w2.heap.size + 1, 0, none⟩ = some (.float .f32 x) ∧ w'.cell? ⟨w2.heap.size + 1, 1, none⟩ = some (.float .f32 y) ∧ w'.cell? ⟨w2.heap.size + 1 + 1, 0, none⟩ = some (.float .f32 x') ∧ w'.cell? ⟨w2.heap.size + 1 + 1, 1, none⟩ = some (.float .f32 y') ∧ w'.cell? ⟨w4.heap.size, 0, none⟩ = some (.float .f32 m1) ∧ w'.cell? ⟨w4.heap.size, 1, none⟩ = some (.float .f32 m2) ∧ w'.cell? ⟨w5.heap.size, 0, none⟩ = some (.float .f32 j1) ∧ w'.cell? ⟨w5.heap.size, 1, none⟩ = some (.float .f32 j2) ∧ w'.cell? ⟨w7.heap.size, 0, none⟩ = some (.float .f64 u) ∧ w'.cell? ⟨w7.heap.size, 1, none⟩ = some (.float .f64 v) ∧ w'.cell? ⟨w8.heap.size, 0, none⟩ = some (.float .f64 u') ∧ w'.cell? ⟨w8.heap.size, 1, none⟩ = some (.float .f64 v'))) := Lib.hid (fun w' h => by
    have h0 : Below w8.heap.size w8 w' := (show Below w8.heap.size w8 V8 from by rw [hV8]; exact ((Below.refl w8.heap.size w8).alloc (by simp; try omega) _)).trans (h.mono (by rw [HSV8.out]; omega))
    obtain ⟨f, g0, g1, g2, g3, g4, g5, g6, g7, g8, g9, g10, g11, g12, g13, g14, g15, g16, g17, g18, g19, g20, g21⟩ := (K7.out w' (HZ8.out.trans (h0.mono HZ8.out.size)))
    rw [HSV8.out, hV8] at h
    exact ⟨f, g0, g1, g2, g3, g4, g5, g6, g7, g8, g9, g10, g11, g12, g13, g14, g15, g16, g17, g18, g19, g20, g21, (h.cell (p := ⟨w8.heap.size, 0, none⟩) (by simp; try omega)).trans (by simp [go_sem]), (h.cell (p := ⟨w8.heap.size, 1, none⟩) (by simp; try omega)).trans (by simp [go_sem])⟩)
  have B8 : Hid (w.heap.size < V8.heap.size ∧ w.heap.size + 1 < V8.heap.size ∧ w.heap.size + 1 + 1 < V8.heap.size ∧ w.heap.size + 1 + 1 + 1 < V8.heap.size ∧ w1.heap.size < V8.heap.size ∧ w2.heap.size < V8.heap.size ∧ w2.heap.size + 1 < V8.heap.size ∧ w2.heap.size + 1 + 1 < V8.heap.size ∧ w4.heap.size < V8.heap.size ∧ w5.heap.size < V8.heap.size ∧ w7.heap.size < V8.heap.size ∧ w8.heap.size + 1 ≤ V8.heap.size) := Lib.hid (by rw [HSV8.out]; exact ⟨by omega, by omega, by omega, by omega, by omega, by omega, by omega, by omega, by omega, by omega, by omega, by omega⟩)
  clear k0 k1 k2 k3 k4 k5 k6 k7 k8 k9 k10 k11 k12 k13 k14 k15 k16 k17 k18 k19 k20 k21 l0 l1 l2 l3 l4 l5 l6 l7 l8 l9 l10
  rw [← hV8]
  clear hV8
  obtain ⟨-, k0, k1, k2, k3, k4, k5, k6, k7, k8, k9, k10, k11, k12, k13, k14, k15, k16, k17, k18, k19, k20, k21, k22, k23⟩ := K8.out V8 (Below.refl V8.heap.size V8)
  have l0 : w.heap.size < V8.heap.size := by have := B8.out; have := ((Below.refl V8.heap.size V8)).size; omega
  have l1 : w.heap.size + 1 < V8.heap.size := by have := B8.out; have := ((Below.refl V8.heap.size V8)).size; omega
  have l2 : w.heap.size + 1 + 1 < V8.heap.size := by have := B8.out; have := ((Below.refl V8.heap.size V8)).size; omega
  have l3 : w.heap.size + 1 + 1 + 1 < V8.heap.size := by have := B8.out; have := ((Below.refl V8.heap.size V8)).size; omega
  have l4 : w1.heap.size < V8.heap.size := by have := B8.out; have := ((Below.refl V8.heap.size V8)).size; omega
  have l5 : w2.heap.size < V8.heap.size := by have := B8.out; have := ((Below.refl V8.heap.size V8)).size; omega
  have l6 : w2.heap.size + 1 < V8.heap.size := by have := B8.out; have := ((Below.refl V8.heap.size V8)).size; omega
  have l7 : w2.heap.size + 1 + 1 < V8.heap.size := by have := B8.out; have := ((Below.refl V8.heap.size V8)).size; omega
  have l8 : w4.heap.size < V8.heap.size := by have := B8.out; have := ((Below.refl V8.heap.size V8)).size; omega
  have l9 : w5.heap.size < V8.heap.size := by have := B8.out; have := ((Below.refl V8.heap.size V8)).size; omega
  have l10 : w7.heap.size < V8.heap.size := by have := B8.out; have := ((Below.refl V8.heap.size V8)).size; omega
  have l11 : w8.heap.size < V8.heap.size := by have := B8.out; have := ((Below.refl V8.heap.size V8)).size; omega
  go_wp2_with fail
  clear k0 k1 k2 k3 k4 k5 k6 k7 k8 k9 k10 k11 k12 k13 k14 k15 k16 k17 k18 k19 k20 k21 k22 k23 l0 l1 l2 l3 l4 l5 l6 l7 l8 l9 l10 l11
  refine (MD.out _).mono ?_
  rintro e9 w9 ⟨rfl, hb9⟩
  have HZ9 := Lib.hid hb9; clear hb9
  obtain ⟨-, k0, k1, k2, k3, k4, k5, k6, k7, k8, k9, k10, k11, k12, k13, k14, k15, k16, k17, k18, k19, k20, k21, k22, k23⟩ := K8.out w9 HZ9.out
  have l0 : w.heap.size < w9.heap.size := by have := B8.out; have := (HZ9.out).size; omega
  have l1 : w.heap.size + 1 < w9.heap.size := by have := B8.out; have := (HZ9.out).size; omega
  have l2 : w.heap.size + 1 + 1 < w9.heap.size := by have := B8.out; have := (HZ9.out).size; omega
  have l3 : w.heap.size + 1 + 1 + 1 < w9.heap.size := by have := B8.out; have := (HZ9.out).size; omega
  have l4 : w1.heap.size < w9.heap.size := by have := B8.out; have := (HZ9.out).size; omega
  have l5 : w2.heap.size < w9.heap.size := by have := B8.out; have := (HZ9.out).size; omega
  have l6 : w2.heap.size + 1 < w9.heap.size := by have := B8.out; have := (HZ9.out).size; omega
  have l7 : w2.heap.size + 1 + 1 < w9.heap.size := by have := B8.out; have := (HZ9.out).size; omega
  have l8 : w4.heap.size < w9.heap.size := by have := B8.out; have := (HZ9.out).size; omega
  have l9 : w5.heap.size < w9.heap.size := by have := B8.out; have := (HZ9.out).size; omega
  have l10 : w7.heap.size < w9.heap.size := by have := B8.out; have := (HZ9.out).size; omega
  have l11 : w8.heap.size < w9.heap.size := by have := B8.out; have := (HZ9.out).size; omega
  go_wp2_with fail
  obtain ⟨V9, hV9⟩ : ∃ V : World, V = (w9.alloc (.cells #[.float .f64 M1, .float .f64 M2] 49)) := ⟨_, rfl⟩
  have HSV9 : Hid (V9.heap.size = w9.heap.size + 1) := Lib.hid (by rw [hV9]; simp)
  have K9 : Hid (∀ w', Below V9.heap.size V9 w' → (Below w.heap.size w w' ∧ w'.cell? ⟨w.heap.size, 0, none⟩ = some (.int .u32 (x : Int)) ∧ w'.cell? ⟨w.heap.size, 1, none⟩ = some (.int .u32 (y : Int)) ∧ w'.cell? ⟨w.heap.size + 1, 0, none⟩ = some (.int .u32 (x' : Int)) ∧ w'.cell? ⟨w.heap.size + 1, 1, none⟩ = some (.int .u32 (y' : Int)) ∧ w'.cell? ⟨w.heap.size + 1 + 1, 0, none⟩ = some (.int .u64 (u : Int)) ∧ w'.cell? ⟨w.heap.size + 1 + 1, 1, none⟩ = some (.int .u64 (v : Int)) ∧ w'.cell? ⟨w.heap.size + 1 + 1 + 1, 0, none⟩ = some (.int .u64 (u' : Int)) ∧ w'.cell? ⟨w.heap.size + 1 + 1 + 1, 1, none⟩ = some (.int .u64 (v' : Int)) ∧ w'.cell? ⟨w1.heap.size, 0, none⟩ = some (.float .f32 x) ∧ w'.cell? ⟨w1.heap.size, 1, none⟩ = some (.float .f32 y) ∧ w'.cell? ⟨w2.heap.size, 0, none⟩ = some (.float .f32 x') ∧ w'.cell? ⟨w2.heap.size, 1, none⟩ = some (.float .f32 y') ∧ w'.cell? ⟨w2.heap.size + 1, 0, none⟩ = some (.float .f32 x) ∧ w'.cell? ⟨w2.heap.size + 1, 1, none⟩ = some (.float .f32 y) ∧ w'.cell? ⟨w2.heap.size + 1 + 1, 0, none⟩ = some (.float .f32 x') ∧ w'.cell? ⟨w2.heap.size + 1 + 1, 1, none⟩ = some (.float .f32 y') ∧ w'.cell? ⟨w4.heap.size, 0, none⟩ = some (.float .f32 m1) ∧ w'.cell? ⟨w4.heap.size, 1, none⟩ = some (.float .f32 m2) ∧ w'.cell? ⟨w5.heap.size, 0, none⟩ = some (.float .f32 j1) ∧ w'.cell? ⟨w5.heap.size, 1, none⟩ = some (.float .f32 j2) ∧ w'.cell? ⟨w7.heap.size, 0, none⟩ = some (.float .f64 u) ∧ w'.cell? ⟨w7.heap.size, 1, none⟩ = some (.float .f64 v) ∧ w'.cell? ⟨w8.heap.size, 0, none⟩ = some (.float .f64 u') ∧ w'.cell? ⟨w8.heap.size, 1, none⟩ = some (.float .f64 v') ∧ w'.cell? ⟨w9.heap.size, 0, none⟩ = some (.float .f64 M1) ∧ w'.cell? ⟨w9.heap.size, 1, none⟩ = some (.float .f64 M2))) := Lib.hid (fun w' h => by
    have h0 : Below w9.heap.size w9 w' := (show Below w9.heap.size w9 V9 from by rw [hV9]; exact ((Below.refl w9.heap.size w9).alloc (by simp; try omega) _)).trans (h.mono (by rw [HSV9.out]; omega))
    obtain ⟨f, g0, g1, g2, g3, g4, g5, g6, g7, g8, g9, g10, g11, g12, g13, g14, g15, g16, g17, g18, g19, g20, g21, g22, g23⟩ := (K8.out w' (HZ9.out.trans (h0.mono HZ9.out.size)))
    rw [HSV9.out, hV9] at h
    exact ⟨f, g0, g1, g2, g3, g4, g5, g6, g7, g8, g9, g10, g11, g12, g13, g14, g15, g16, g17, g18, g19, g20, g21, g22, g23, (h.cell (p := ⟨w9.heap.size, 0, none⟩) (by simp; try omega)).trans (by simp [go_sem]), (h.cell (p := ⟨w9.heap.size, 1, none⟩) (by simp; try omega)).trans (by simp [go_sem])⟩)
  have B9 : Hid (w.heap.size < V9.heap.size ∧ w.heap.size + 1 < V9.heap.size ∧ w.heap.size + 1 + 1 < V9.heap.size ∧ w.heap.size + 1 + 1 + 1 < V9.heap.size ∧ w1.heap.size < V9.heap.size ∧ w2.heap.size < V9.heap.size ∧ w2.heap.size + 1 < V9.heap.size ∧ w2.heap.size + 1 + 1 < V9.heap.size ∧ w4.heap.size < V9.heap.size ∧ w5.heap.size < V9.heap.size ∧ w7.heap.size < V9.heap.size ∧ w8.heap.size < V9.heap.size ∧ w9.heap.size + 1 ≤ V9.heap.size) := Lib.hid (by rw [HSV9.out]; exact ⟨by omega, by omega, by omega, by omega, by omega, by omega, by omega, by omega, by omega, by omega, by omega, by omega, by omega⟩)
  clear k0 k1 k2 k3 k4 k5 k6 k7 k8 k9 k10 k11 k12 k13 k14 k15 k16 k17 k18 k19 k20 k21 k22 k23 l0 l1 l2 l3 l4 l5 l6 l7 l8 l9 l10 l11
  rw [← hV9]
  clear hV9
  obtain ⟨-, k0, k1, k2, k3, k4, k5, k6, k7, k8, k9, k10, k11, k12, k13, k14, k15, k16, k17, k18, k19, k20, k21, k22, k23, k24, k25⟩ := K9.out V9 (Below.refl V9.heap.size V9)
  have l0 : w.heap.size < V9.heap.size := by have := B9.out; have := ((Below.refl V9.heap.size V9)).size; omega
  have l1 : w.heap.size + 1 < V9.heap.size := by have := B9.out; have := ((Below.refl V9.heap.size V9)).size; omega
  have l2 : w.heap.size + 1 + 1 < V9.heap.size := by have := B9.out; have := ((Below.refl V9.heap.size V9)).size; omega
  have l3 : w.heap.size + 1 + 1 + 1 < V9.heap.size := by have := B9.out; have := ((Below.refl V9.heap.size V9)).size; omega
  have l4 : w1.heap.size < V9.heap.size := by have := B9.out; have := ((Below.refl V9.heap.size V9)).size; omega
  have l5 : w2.heap.size < V9.heap.size := by have := B9.out; have := ((Below.refl V9.heap.size V9)).size; omega
  have l6 : w2.heap.size + 1 < V9.heap.size := by have := B9.out; have := ((Below.refl V9.heap.size V9)).size; omega
  have l7 : w2.heap.size + 1 + 1 < V9.heap.size := by have := B9.out; have := ((Below.refl V9.heap.size V9)).size; omega
  have l8 : w4.heap.size < V9.heap.size := by have := B9.out; have := ((Below.refl V9.heap.size V9)).size; omega
  have l9 : w5.heap.size < V9.heap.size := by have := B9.out; have := ((Below.refl V9.heap.size V9)).size; omega
  have l10 : w7.heap.size < V9.heap.size := by have := B9.out; have := ((Below.refl V9.heap.size V9)).size; omega
  have l11 : w8.heap.size < V9.heap.size := by have := B9.out; have := ((Below.refl V9.heap.size V9)).size; omega
  have l12 : w9.heap.size < V9.heap.size := by have := B9.out; have := ((Below.refl V9.heap.size V9)).size; omega
  go_wp2_with fail
  clear k0 k1 k2 k3 k4 k5 k6 k7 k8 k9 k10 k11 k12 k13 k14 k15 k16 k17 k18 k19 k20 k21 k22 k23 k24 k25 l0 l1 l2 l3 l4 l5 l6 l7 l8 l9 l10 l11 l12
  refine (JF.out _).mono ?_
  rintro e10 w10 ⟨rfl, hb10⟩
  have HZ10 := Lib.hid hb10; clear hb10
  obtain ⟨-, k0, k1, k2, k3, k4, k5, k6, k7, k8, k9, k10, k11, k12, k13, k14, k15, k16, k17, k18, k19, k20, k21, k22, k23, k24, k25⟩ := K9.out w10 HZ10.out
  have l0 : w.heap.size < w10.heap.size := by have := B9.out; have := (HZ10.out).size; omega
  have l1 : w.heap.size + 1 < w10.heap.size := by have := B9.out; have := (HZ10.out).size; omega
  have l2 : w.heap.size + 1 + 1 < w10.heap.size := by have := B9.out; have := (HZ10.out).size; omega
  have l3 : w.heap.size + 1 + 1 + 1 < w10.heap.size := by have := B9.out; have := (HZ10.out).size; omega
  have l4 : w1.heap.size < w10.heap.size := by have := B9.out; have := (HZ10.out).size; omega
  have l5 : w2.heap.size < w10.heap.size := by have := B9.out; have := (HZ10.out).size; omega
  have l6 : w2.heap.size + 1 < w10.heap.size := by have := B9.out; have := (HZ10.out).size; omega
  have l7 : w2.heap.size + 1 + 1 < w10.heap.size := by have := B9.out; have := (HZ10.out).size; omega
  have l8 : w4.heap.size < w10.heap.size := by have := B9.out; have := (HZ10.out).size; omega
  have l9 : w5.heap.size < w10.heap.size := by have := B9.out; have := (HZ10.out).size; omega
  have l10 : w7.heap.size < w10.heap.size := by have := B9.out; have := (HZ10.out).size; omega
  have l11 : w8.heap.size < w10.heap.size := by have := B9.out; have := (HZ10.out).size; omega
  have l12 : w9.heap.size < w10.heap.size := by have := B9.out; have := (HZ10.out).size; omega
  go_wp2_with fail
  obtain ⟨V10, hV10⟩ : ∃ V : World, V = (w10.alloc (.cells #[.float .f64 J1, .float .f64 J2] 53)) := ⟨_, rfl⟩
  have HSV10 : Hid (V10.heap.size = w10.heap.size + 1) := Lib.hid (by rw [hV10]; simp)
  have K10 : Hid (∀ w', Below V10.heap.size V10 w' → (Below w.heap.size w w' ∧ w'.cell? ⟨w.heap.size, 0, none⟩ = some (.int .u32 (x : Int)) ∧ w'.cell? ⟨w.heap.size, 1, none⟩ = some (.int .u32 (y : Int)) ∧ w'.cell? ⟨w.heap.size + 1, 0, none⟩ = some (.int .u32 (x' : Int)) ∧ w'.cell? ⟨w.heap.size + 1, 1, none⟩ = some (.int .u32 (y' : Int)) ∧ w'.cell? ⟨w.heap.size + 1 + 1, 0, none⟩ = some (.int .u64 (u : Int)) ∧ w'.cell? ⟨w.heap.size + 1 + 1, 1, none⟩ = some (.int .u64 (v : Int)) ∧ w'.cell? ⟨w.heap.size + 1 + 1 + 1, 0, none⟩ = some (.int .u64 (u' : Int)) ∧ w'.cell? ⟨w.heap.size + 1 + 1 + 1, 1, none⟩ = some (.int .u64 (v' : Int)) ∧ w'.cell? ⟨w1.heap.size, 0, none⟩ = some (.float .f32 x) ∧ w'.cell? ⟨w1.heap.size, 1, none⟩ = some (.float .f32 y) ∧ w'.cell? ⟨w2.heap.size, 0, none⟩ = some (.float .f32 x') ∧ w'.cell? ⟨w2.heap.size, 1, none⟩ = some (.float .f32 y') ∧ w'.cell? ⟨w2.heap.size + 1, 0, none⟩ = some (.float .f32 x) ∧ w'.cell? ⟨w2.heap.size + 1, 1, none⟩ = some (.float .f32 y) ∧ w'.cell? ⟨w2.heap.size + 1 + 1, 0, none⟩ = some (.float .f32 x') ∧ w'.cell? ⟨w2.heap.size + 1 + 1, 1, none⟩ = some (.float .f32 y') ∧ w'.cell? ⟨w4.heap.size, 0, none⟩ = some (.float .f32 m1) ∧ w'.cell? ⟨w4.heap.size, 1, none⟩ = some (.float .f32 m2) ∧ w'.cell? ⟨w5.heap.size, 0, none⟩ = some (.float .f32 j1) ∧ w'.cell? ⟨w5.heap.size, 1, none⟩ = some (.float .f32 j2) ∧ w'.cell? ⟨w7.heap.size, 0, none⟩ = some (.float .f64 u) ∧ w'.cell? ⟨w7.heap.size, 1, none⟩ = some (.float .f64 v) ∧ w'.cell? ⟨w8.heap.size, 0, none⟩ = some (.float .f64 u') ∧ w'.cell? ⟨w8.heap.size, 1, none⟩ = some (.float .f64 v') ∧ w'.cell? ⟨w9.heap.size, 0, none⟩ = some (.float .f64 M1) ∧ w'.cell? ⟨w9.heap.size, 1, none⟩ = some (.float .f64 M2) ∧ w'.cell? ⟨w10.heap.size, 0, none⟩ = some (.float .f64 J1) ∧ w'.cell? ⟨w10.heap.size, 1, none⟩ = some (.float .f64 J2))) := Lib.hid (fun w' h => by
    have h0 : Below w10.heap.size w10 w' := (show Below w10.heap.size w10 V10 from by rw [hV10]; exact ((Below.refl w10.heap.size w10).alloc (by simp; try omega) _)).trans (h.mono (by rw [HSV10.out]; omega))
    obtain ⟨f, g0, g1, g2, g3, g4, g5, g6, g7, g8, g9, g10, g11, g12, g13, g14, g15, g16, g17, g18, g19, g20, g21, g22, g23, g24, g25⟩ := (K9.out w' (HZ10.out.trans (h0.mono HZ10.out.size)))
    rw [HSV10.out, hV10] at h
    exact ⟨f, g0, g1, g2, g3, g4, g5, g6, g7, g8, g9, g10, g11, g12, g13, g14, g15, g16, g17, g18, g19, g20, g21, g22, g23, g24, g25, (h.cell (p := ⟨w10.heap.size, 0, none⟩) (by simp; try omega)).trans (by simp [go_sem]), (h.cell (p := ⟨w10.heap.size, 1, none⟩) (by simp; try omega)).trans (by simp [go_sem])⟩)
  have B10 : Hid (w.heap.size < V10.heap.size ∧ w.heap.size + 1 < V10.heap.size ∧ w.heap.size + 1 + 1 < V10.heap.size ∧ w.heap.size + 1 + 1 + 1 < V10.heap.size ∧ w1.heap.size < V10.heap.size ∧ w2.heap.size < V10.heap.size ∧ w2.heap.size + 1 < V10.heap.size ∧ w2.heap.size + 1 + 1 < V10.heap.size ∧ w4.heap.size < V10.heap.size ∧ w5.heap.size < V10.heap.size ∧ w7.heap.size < V10.heap.size ∧ w8.heap.size < V10.heap.size ∧ w9.heap.size < V10.heap.size ∧ w10.heap.size + 1 ≤ V10.heap.size) := Lib.hid (by rw [HSV10.out]; exact ⟨by omega, by omega, by omega, by omega, by omega, by omega, by omega, by omega, by omega, by omega, by omega, by omega, by omega, by omega⟩)
  clear k0 k1 k2 k3 k4 k5 k6 k7 k8 k9 k10 k11 k12 k13 k14 k15 k16 k17 k18 k19 k20 k21 k22 k23 k24 k25 l0 l1 l2 l3 l4 l5 l6 l7 l8 l9 l10 l11 l12
  rw [← hV10]
  clear hV10
  obtain ⟨-, k0, k1, k2, k3, k4, k5, k6, k7, k8, k9, k10, k11, k12, k13, k14, k15, k16, k17, k18, k19, k20, k21, k22, k23, k24, k25, k26, k27⟩ := K10.out V10 (Below.refl V10.heap.size V10)
  have l0 : w.heap.size < V10.heap.size := by have := B10.out; have := ((Below.refl V10.heap.size V10)).size; omega
  have l1 : w.heap.size + 1 < V10.heap.size := by have := B10.out; have := ((Below.refl V10.heap.size V10)).size; omega
  have l2 : w.heap.size + 1 + 1 < V10.heap.size := by have := B10.out; have := ((Below.refl V10.heap.size V10)).size; omega
  have l3 : w.heap.size + 1 + 1 + 1 < V10.heap.size := by have := B10.out; have := ((Below.refl V10.heap.size V10)).size; omega
  have l4 : w1.heap.size < V10.heap.size := by have := B10.out; have := ((Below.refl V10.heap.size V10)).size; omega
  have l5 : w2.heap.size < V10.heap.size := by have := B10.out; have := ((Below.refl V10.heap.size V10)).size; omega
  have l6 : w2.heap.size + 1 < V10.heap.size := by have := B10.out; have := ((Below.refl V10.heap.size V10)).size; omega
  have l7 : w2.heap.size + 1 + 1 < V10.heap.size := by have := B10.out; have := ((Below.refl V10.heap.size V10)).size; omega
  have l8 : w4.heap.size < V10.heap.size := by have := B10.out; have := ((Below.refl V10.heap.size V10)).size; omega
  have l9 : w5.heap.size < V10.heap.size := by have := B10.out; have := ((Below.refl V10.heap.size V10)).size; omega
  have l10 : w7.heap.size < V10.heap.size := by have := B10.out; have := ((Below.refl V10.heap.size V10)).size; omega
  have l11 : w8.heap.size < V10.heap.size := by have := B10.out; have := ((Below.refl V10.heap.size V10)).size; omega
  have l12 : w9.heap.size < V10.heap.size := by have := B10.out; have := ((Below.refl V10.heap.size V10)).size; omega
  have l13 : w10.heap.size < V10.heap.size := by have := B10.out; have := ((Below.refl V10.heap.size V10)).size; omega
  go_wp2_with fail
  refine region_quiet (by kernel_rfl) (by kernel_rfl) ?_
  repeat (go_big_quiet_step (first | (with_reducible exact qcall (outLong_any M1 M2 _)) | (with_reducible exact qcall (I9.out _))))
  refine wpQuiet_nil ?_
  intro w11 hb11
  have HZ11 := Lib.hid hb11; clear hb11
  clear k0 k1 k2 k3 k4 k5 k6 k7 k8 k9 k10 k11 k12 k13 k14 k15 k16 k17 k18 k19 k20 k21 k22 k23 k24 k25 k26 k27 l0 l1 l2 l3 l4 l5 l6 l7 l8 l9 l10 l11 l12 l13
  have K11 : Hid (∀ w', Below w11.heap.size w11 w' → (Below w.heap.size w w' ∧ w'.cell? ⟨w.heap.size, 0, none⟩ = some (.int .u32 (x : Int)) ∧ w'.cell? ⟨w.heap.size, 1, none⟩ = some (.int .u32 (y : Int)) ∧ w'.cell? ⟨w.heap.size + 1, 0, none⟩ = some (.int .u32 (x' : Int)) ∧ w'.cell? ⟨w.heap.size + 1, 1, none⟩ = some (.int .u32 (y' : Int)) ∧ w'.cell? ⟨w.heap.size + 1 + 1, 0, none⟩ = some (.int .u64 (u : Int)) ∧ w'.cell? ⟨w.heap.size + 1 + 1, 1, none⟩ = some (.int .u64 (v : Int)) ∧ w'.cell? ⟨w.heap.size + 1 + 1 + 1, 0, none⟩ = some (.int .u64 (u' : Int)) ∧ w'.cell? ⟨w.heap.size + 1 + 1 + 1, 1, none⟩ = some (.int .u64 (v' : Int)) ∧ w'.cell? ⟨w1.heap.size, 0, none⟩ = some (.float .f32 x) ∧ w'.cell? ⟨w1.heap.size, 1, none⟩ = some (.float .f32 y) ∧ w'.cell? ⟨w2.heap.size, 0, none⟩ = some (.float .f32 x') ∧ w'.cell? ⟨w2.heap.size, 1, none⟩ = some (.float .f32 y') ∧ w'.cell? ⟨w2.heap.size + 1, 0, none⟩ = some (.float .f32 x) ∧ w'.cell? ⟨w2.heap.size + 1, 1, none⟩ = some (.float .f32 y) ∧ w'.cell? ⟨w2.heap.size + 1 + 1, 0, none⟩ = some (.float .f32 x') ∧ w'.cell? ⟨w2.heap.size + 1 + 1, 1, none⟩ = some (.float .f32 y') ∧ w'.cell? ⟨w4.heap.size, 0, none⟩ = some (.float .f32 m1) ∧ w'.cell? ⟨w4.heap.size, 1, none⟩ = some (.float .f32 m2) ∧ w'.cell? ⟨w5.heap.size, 0, none⟩ = some (.float .f32 j1) ∧ w'.cell? ⟨w5.heap.size, 1, none⟩ = some (.float .f32 j2) ∧ w'.cell? ⟨w7.heap.size, 0, none⟩ = some (.float .f64 u) ∧ w'.cell? ⟨w7.heap.size, 1, none⟩ = some (.float .f64 v) ∧ w'.cell? ⟨w8.heap.size, 0, none⟩ = some (.float .f64 u') ∧ w'.cell? ⟨w8.heap.size, 1, none⟩ = some (.float .f64 v') ∧ w'.cell? ⟨w9.heap.size, 0, none⟩ = some (.float .f64 M1) ∧ w'.cell? ⟨w9.heap.size, 1, none⟩ = some (.float .f64 M2) ∧ w'.cell? ⟨w10.heap.size, 0, none⟩ = some (.float .f64 J1) ∧ w'.cell? ⟨w10.heap.size, 1, none⟩ = some (.float .f64 J2))) := Lib.hid (fun w' h => K10.out w' (HZ11.out.trans (h.mono HZ11.out.size)))
  have B11 : Hid (w.heap.size < w11.heap.size ∧ w.heap.size + 1 < w11.heap.size ∧ w.heap.size + 1 + 1 < w11.heap.size ∧ w.heap.size + 1 + 1 + 1 < w11.heap.size ∧ w1.heap.size < w11.heap.size ∧ w2.heap.size < w11.heap.size ∧ w2.heap.size + 1 < w11.heap.size ∧ w2.heap.size + 1 + 1 < w11.heap.size ∧ w4.heap.size < w11.heap.size ∧ w5.heap.size < w11.heap.size ∧ w7.heap.size < w11.heap.size ∧ w8.heap.size < w11.heap.size ∧ w9.heap.size < w11.heap.size ∧ w10.heap.size < w11.heap.size) := Lib.hid (by have := B10.out; have := HZ11.out.size; exact ⟨by omega, by omega, by omega, by omega, by omega, by omega, by omega, by omega, by omega, by omega, by omega, by omega, by omega, by omega⟩)
  obtain ⟨V11, hV11⟩ : ∃ V : World, V = w11 := ⟨_, rfl⟩
  subst hV11
  obtain ⟨-, k0, k1, k2, k3, k4, k5, k6, k7, k8, k9, k10, k11, k12, k13, k14, k15, k16, k17, k18, k19, k20, k21, k22, k23, k24, k25, k26, k27⟩ := K11.out V11 (Below.refl V11.heap.size V11)
  have l0 : w.heap.size < V11.heap.size := by have := B11.out; have := ((Below.refl V11.heap.size V11)).size; omega
  have l1 : w.heap.size + 1 < V11.heap.size := by have := B11.out; have := ((Below.refl V11.heap.size V11)).size; omega
  have l2 : w.heap.size + 1 + 1 < V11.heap.size := by have := B11.out; have := ((Below.refl V11.heap.size V11)).size; omega
  have l3 : w.heap.size + 1 + 1 + 1 < V11.heap.size := by have := B11.out; have := ((Below.refl V11.heap.size V11)).size; omega
  have l4 : w1.heap.size < V11.heap.size := by have := B11.out; have := ((Below.refl V11.heap.size V11)).size; omega
  have l5 : w2.heap.size < V11.heap.size := by have := B11.out; have := ((Below.refl V11.heap.size V11)).size; omega
  have l6 : w2.heap.size + 1 < V11.heap.size := by have := B11.out; have := ((Below.refl V11.heap.size V11)).size; omega
  have l7 : w2.heap.size + 1 + 1 < V11.heap.size := by have := B11.out; have := ((Below.refl V11.heap.size V11)).size; omega
  have l8 : w4.heap.size < V11.heap.size := by have := B11.out; have := ((Below.refl V11.heap.size V11)).size; omega
  have l9 : w5.heap.size < V11.heap.size := by have := B11.out; have := ((Below.refl V11.heap.size V11)).size; omega
  have l10 : w7.heap.size < V11.heap.size := by have := B11.out; have := ((Below.refl V11.heap.size V11)).size; omega
  have l11 : w8.heap.size < V11.heap.size := by have := B11.out; have := ((Below.refl V11.heap.size V11)).size; omega
  have l12 : w9.heap.size < V11.heap.size := by have := B11.out; have := ((Below.refl V11.heap.size V11)).size; omega
  have l13 : w10.heap.size < V11.heap.size := by have := B11.out; have := ((Below.refl V11.heap.size V11)).size; omega
  go_wp2_with fail
  refine region_quiet (by kernel_rfl) (by kernel_rfl) ?_
  repeat (go_big_quiet_step (first | (with_reducible exact qcall (outLong_any J1 J2 _)) | (with_reducible exact qcall (H9.out _))))
  refine wpQuiet_nil ?_
  intro w12 hb12
  have HZ12 := Lib.hid hb12; clear hb12
  clear k0 k1 k2 k3 k4 k5 k6 k7 k8 k9 k10 k11 k12 k13 k14 k15 k16 k17 k18 k19 k20 k21 k22 k23 k24 k25 k26 k27 l0 l1 l2 l3 l4 l5 l6 l7 l8 l9 l10 l11 l12 l13
  go_wp2
  go_ret
  exact ⟨rfl, (K11.out _ HZ12.out).1⟩

theorem shortMeets_any (x y x' y' u v u' v' : Nat) (hx : W32 x) (hy : W32 y) (hx' : W32 x') (hy' : W32 y') (hu : W64 u) (hv : W64 v) (hu' : W64 u') (hv' : W64 v') (w : World) :
    Calls Try.prog 4 #[.agg #[.int .u32 (x : Int), .int .u32 (y : Int)], .agg #[.int .u32 (x' : Int), .int .u32 (y' : Int)], .agg #[.int .u64 (u : Int), .int .u64 (v : Int)], .agg #[.int .u64 (u' : Int), .int .u64 (v' : Int)]] w fun e w' => e = .returned (.bool true) ∧ Below w.heap.size w w' :=
  shortMeets_walk x y x' y' u v u' v' _ _ _ _ _ _ _ _ (Lib.hid (fun w => meet32_any x y x' y' hx hy hx' hy' w)) (Lib.hid (fun w => join32_any x y x' y' hx hy hx' hy' w)) (Lib.hid (fun w => meetNear_any x y x' y' hx hy hx' hy' w)) (Lib.hid (fun w => joinNear_any x y x' y' hx hy hx' hy' w))
    (Lib.hid (fun w => meet14_any x y x' y' hx hy hx' hy' w)) (Lib.hid (fun w => join14_any x y x' y' hx hy hx' hy' w)) (Lib.hid (fun w => meet64_any u v u' v' hu hv hu' hv' w)) (Lib.hid (fun w => joinFar_any u v u' v' hu hv hu' hv' w))
    (Lib.hid (fun w => intersect_any u v u' v' hu hv hu' hv' w)) (Lib.hid (fun w => hull9_any u v u' v' hu hv hu' hv' w)) w

end Go.Proofs.Ytamaeggkpdgaiaa
