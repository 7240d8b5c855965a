/- The walk of vergeref9.rows. -/
import Derived.Test.YtamaeggkpdgaiaaHk
import Derived.Deep.RegionHeld3
namespace Go.Proofs.Ytamaeggkpdgaiaa
open Go.RowKit

@[go_sem high] theorem run_equal_I (a b c d : Int) (w : World) : (Op.equalIn 10000 27 (.agg #[.int .u64 a, .int .u64 b]) (.agg #[.int .u64 c, .int .u64 d])).run Try.prog w = .ok ((a == c) && (b == d)) w := by
  cases h1 : (a == c) <;> cases h2 : (b == d) <;> simp [go_sem, h1, h2]

/-- What rows tells. -/
def RowsP (a b c d : Nat) (na nc : Bool) (e : Ending) (w w' : World) : Prop :=
  ∃ n f pa pb pc pd, n ≤ 4 ∧ CutsD (four a b c d) n f ∧ PlaceP n f a pa ∧ PlaceP n f b pb ∧ PlaceP n f c pc ∧ PlaceP n f d pd ∧
    e = .returned (.tuple #[.agg #[.bool na, .int .i64 (pa : Int), .int .i64 (pb : Int)], .agg #[.bool nc, .int .i64 (pc : Int), .int .i64 (pd : Int)], .int .i64 (4 * ((n : Int) + 1))]) ∧ Below w.heap.size w w'

/-- A row that has been laid at g. -/
def RowAt (W : World) (g : Nat) (nn : Bool) (p q : Nat) (w' : World) : Prop :=
  W.heap.size ≤ g ∧ g < w'.heap.size ∧ Below W.heap.size W w' ∧ w'.cell? ⟨g, 0, none⟩ = some (.bool nn) ∧ w'.cell? ⟨g, 1, none⟩ = some (.int .i64 (p : Int)) ∧ w'.cell? ⟨g, 2, none⟩ = some (.int .i64 (q : Int))

set_option maxRecDepth 100000 in
set_option maxHeartbeats 4000000 in
theorem rows_walk (x y u v a b c d : Nat) (na nc : Bool) (hna : (((a : Int) == 9218868437227405312) && ((b : Int) == 18442240474082181120)) = na) (hnc : (((c : Int) == 9218868437227405312) && ((d : Int) == 18442240474082181120)) = nc)
    (R1 : Hid (∀ w : World, Calls Try.prog 44 #[.agg #[.int .u64 (x : Int), .int .u64 (y : Int)]] w fun e w' => e = .returned (.agg #[.int .u64 (a : Int), .int .u64 (b : Int)]) ∧ Below w.heap.size w w'))
    (R2 : Hid (∀ w : World, Calls Try.prog 44 #[.agg #[.int .u64 (u : Int), .int .u64 (v : Int)]] w fun e w' => e = .returned (.agg #[.int .u64 (c : Int), .int .u64 (d : Int)]) ∧ Below w.heap.size w w'))
    (CC : Hid (∀ w : World, Calls Try.prog 126 #[.agg #[.int .u64 (a : Int), .int .u64 (b : Int)], .agg #[.int .u64 (c : Int), .int .u64 (d : Int)]] w fun e w' => CutsP (four a b c d) e w w')) (w : World) :
    Calls Try.prog 95 #[.agg #[.int .u64 (x : Int), .int .u64 (y : Int)], .agg #[.int .u64 (u : Int), .int .u64 (v : Int)]] w fun e w' => RowsP a b c d na nc e w w' := by
  have HB0 : Hid (Below w.heap.size w ((((w.alloc (.cells #[.int .u64 (x : Int), .int .u64 (y : Int)] 27)).alloc (.cells #[.int .u64 (u : Int), .int .u64 (v : Int)] 27)).alloc (.cells #[.bool false, .int .i64 0, .int .i64 0] 169)).alloc (.cells #[.bool false, .int .i64 0, .int .i64 0] 169))) := Lib.hid ((below3 _ _ _ _).alloc (by simp; try omega) _)
  have KS : Hid (∀ w', Below (w.heap.size + 4) ((((w.alloc (.cells #[.int .u64 (x : Int), .int .u64 (y : Int)] 27)).alloc (.cells #[.int .u64 (u : Int), .int .u64 (v : Int)] 27)).alloc (.cells #[.bool false, .int .i64 0, .int .i64 0] 169)).alloc (.cells #[.bool false, .int .i64 0, .int .i64 0] 169)) w' → (Below w.heap.size w w' ∧ w'.cell? ⟨w.heap.size + 1, 0, none⟩ = some (.int .u64 (u : Int)) ∧ w'.cell? ⟨w.heap.size + 1, 1, none⟩ = some (.int .u64 (v : Int)) ∧ w'.cell? ⟨w.heap.size + 1 + 1, 0, none⟩ = some (.bool false) ∧ w'.frozen? ⟨w.heap.size + 1 + 1, 0, none⟩ = false ∧ w'.cell? ⟨w.heap.size + 1 + 1, 1, none⟩ = some (.int .i64 0) ∧ w'.frozen? ⟨w.heap.size + 1 + 1, 1, none⟩ = false ∧ w'.cell? ⟨w.heap.size + 1 + 1, 2, none⟩ = some (.int .i64 0) ∧ w'.frozen? ⟨w.heap.size + 1 + 1, 2, none⟩ = false ∧ w'.cell? ⟨w.heap.size + 1 + 1 + 1, 0, none⟩ = some (.bool false) ∧ w'.frozen? ⟨w.heap.size + 1 + 1 + 1, 0, none⟩ = false ∧ w'.cell? ⟨w.heap.size + 1 + 1 + 1, 1, none⟩ = some (.int .i64 0) ∧ w'.frozen? ⟨w.heap.size + 1 + 1 + 1, 1, none⟩ = false ∧ w'.cell? ⟨w.heap.size + 1 + 1 + 1, 2, none⟩ = some (.int .i64 0) ∧ w'.frozen? ⟨w.heap.size + 1 + 1 + 1, 2, none⟩ = false)) :=
    Lib.hid (fun w' h => ⟨HB0.out.trans (h.mono (by omega)), (h.cell (p := ⟨w.heap.size + 1, 0, none⟩) (by simp; try omega)).trans (by simp [go_sem]), (h.cell (p := ⟨w.heap.size + 1, 1, none⟩) (by simp; try omega)).trans (by simp [go_sem]), (h.cell (p := ⟨w.heap.size + 1 + 1, 0, none⟩) (by simp; try omega)).trans (by simp [go_sem]), (h.frozen (p := ⟨w.heap.size + 1 + 1, 0, none⟩) (by simp; try omega)).trans (by simp [go_sem]), (h.cell (p := ⟨w.heap.size + 1 + 1, 1, none⟩) (by simp; try omega)).trans (by simp [go_sem]), (h.frozen (p := ⟨w.heap.size + 1 + 1, 1, none⟩) (by simp; try omega)).trans (by simp [go_sem]), (h.cell (p := ⟨w.heap.size + 1 + 1, 2, none⟩) (by simp; try omega)).trans (by simp [go_sem]), (h.frozen (p := ⟨w.heap.size + 1 + 1, 2, none⟩) (by simp; try omega)).trans (by simp [go_sem]), (h.cell (p := ⟨w.heap.size + 1 + 1 + 1, 0, none⟩) (by simp; try omega)).trans (by simp [go_sem]), (h.frozen (p := ⟨w.heap.size + 1 + 1 + 1, 0, none⟩) (by simp; try omega)).trans (by simp [go_sem]), (h.cell (p := ⟨w.heap.size + 1 + 1 + 1, 1, none⟩) (by simp; try omega)).trans (by simp [go_sem]), (h.frozen (p := ⟨w.heap.size + 1 + 1 + 1, 1, none⟩) (by simp; try omega)).trans (by simp [go_sem]), (h.cell (p := ⟨w.heap.size + 1 + 1 + 1, 2, none⟩) (by simp; try omega)).trans (by simp [go_sem]), (h.frozen (p := ⟨w.heap.size + 1 + 1 + 1, 2, none⟩) (by simp; try omega)).trans (by simp [go_sem])⟩)
  go_enter Try.func95, Try.ntmps95
  go_wp2_with fail
  obtain ⟨W0, hW0⟩ : ∃ W0 : World, W0 = ((((w.alloc (.cells #[.int .u64 (x : Int), .int .u64 (y : Int)] 27)).alloc (.cells #[.int .u64 (u : Int), .int .u64 (v : Int)] 27)).alloc (.cells #[.bool false, .int .i64 0, .int .i64 0] 169)).alloc (.cells #[.bool false, .int .i64 0, .int .i64 0] 169)) := ⟨_, rfl⟩
  have hy0 : (W0.cell? ⟨w.heap.size, 0, none⟩ = some (.int .u64 (x : Int))) ∧ W0.cell? ⟨w.heap.size, 1, none⟩ = some (.int .u64 (y : Int)) := by rw [hW0]; exact ⟨by simp [go_sem], by simp [go_sem]⟩
  rw [← hW0] at KS HB0 ⊢
  have HSz : Hid (W0.heap.size = w.heap.size + 4) := Lib.hid (by rw [hW0]; simp)
  clear hW0
  refine (R1.out _).mono ?_
  rintro e1 w1 ⟨rfl, hb1⟩
  have HZ1 : Hid (Below (w.heap.size + 4) W0 w1) := Lib.hid (hb1.mono (by rw [HSz.out]; exact Nat.le_refl _)); clear hb1 hy0
  obtain ⟨-, u0, u1, -⟩ := KS.out w1 HZ1.out
  have hs1 : w.heap.size + 4 ≤ w1.heap.size := by have := HZ1.out.size; rw [HSz.out] at this; exact this
  have hl1 : w.heap.size + 1 < w1.heap.size := by omega
  go_wp2_with fail
  refine (R2.out _).mono ?_
  rintro e2 w2 ⟨rfl, hb2⟩
  have HZ2 : Hid (Below (w1.heap.size + 1) (w1.alloc (.cells #[.int .u64 (a : Int), .int .u64 (b : Int)] 27)) w2) := Lib.hid (hb2.mono (by simp)); clear hb2 u0 u1
  have hs2 : w1.heap.size + 1 ≤ w2.heap.size := by have := HZ2.out.size; simpa using this
  have K2 : Hid (∀ w', Below (w2.heap.size + 1) (w2.alloc (.cells #[.int .u64 (c : Int), .int .u64 (d : Int)] 27)) w' → (Below (w.heap.size + 4) W0 w' ∧ w'.cell? ⟨w1.heap.size, 0, none⟩ = some (.int .u64 (a : Int)) ∧ w'.cell? ⟨w1.heap.size, 1, none⟩ = some (.int .u64 (b : Int)) ∧ w'.cell? ⟨w2.heap.size, 0, none⟩ = some (.int .u64 (c : Int)) ∧ w'.cell? ⟨w2.heap.size, 1, none⟩ = some (.int .u64 (d : Int)))) := Lib.hid (fun w' h =>
    have h2 : Below (w1.heap.size + 1) (w1.alloc (.cells #[.int .u64 (a : Int), .int .u64 (b : Int)] 27)) w' := (HZ2.out.alloc hs2 _).trans (h.mono (by omega))
    ⟨(HZ1.out.alloc hs1 _).trans (h2.mono (by omega)), (h2.cell (p := ⟨w1.heap.size, 0, none⟩) (by simp)).trans (by simp [go_sem]), (h2.cell (p := ⟨w1.heap.size, 1, none⟩) (by simp)).trans (by simp [go_sem]),
      (h.cell (p := ⟨w2.heap.size, 0, none⟩) (by simp)).trans (by simp [go_sem]), (h.cell (p := ⟨w2.heap.size, 1, none⟩) (by simp)).trans (by simp [go_sem])⟩)
  have Z2 : Hid (Below (w2.heap.size + 1) (w2.alloc (.cells #[.int .u64 (c : Int), .int .u64 (d : Int)] 27)) (w2.alloc (.cells #[.int .u64 (c : Int), .int .u64 (d : Int)] 27))) := Lib.hid (Below.refl _ _)
  obtain ⟨-, k0, k1, k2, k3⟩ := K2.out _ Z2.out
  go_wp2_with fail
  obtain ⟨W2, hW2⟩ : ∃ W2 : World, W2 = w2.alloc (.cells #[.int .u64 (c : Int), .int .u64 (d : Int)] 27) := ⟨_, rfl⟩
  have HS2 : Hid (W2.heap.size = w2.heap.size + 1) := Lib.hid (by rw [hW2]; simp)
  rw [← hW2] at K2 Z2 ⊢
  clear hW2 k0 k1 k2 k3
  refine (CC.out _).mono ?_
  rintro e3 w3 ⟨A, n, cap, f, rfl, hrow, hcut0, hb3⟩
  have HRow := Lib.hid hrow; have HCut := Lib.hid hcut0; have hn4 : n ≤ 4 := hcut0.le; clear hrow hcut0
  have HZ3 : Hid (Below (w2.heap.size + 1) W2 w3) := Lib.hid (hb3.mono (by rw [HS2.out]; exact Nat.le_refl _)); clear hb3
  have hs3 : w2.heap.size + 1 ≤ w3.heap.size := by have := HZ3.out.size; rw [HS2.out] at this; exact this
  have K3 : ∀ w', Below w3.heap.size w3 w' → (Below w3.heap.size w3 w' ∧ w'.cell? ⟨w1.heap.size, 0, none⟩ = some (.int .u64 (a : Int)) ∧ w'.cell? ⟨w1.heap.size, 1, none⟩ = some (.int .u64 (b : Int)) ∧ w'.cell? ⟨w2.heap.size, 0, none⟩ = some (.int .u64 (c : Int)) ∧ w'.cell? ⟨w2.heap.size, 1, none⟩ = some (.int .u64 (d : Int))) := fun w' h => ⟨h, (K2.out w' (HZ3.out.trans (h.mono hs3))).2⟩
  have hl3 : w1.heap.size < w3.heap.size := by omega
  have hl4 : w2.heap.size < w3.heap.size := by omega
  obtain ⟨pa, hpa⟩ := place_ex n f a
  obtain ⟨pb, hpb⟩ := place_ex n f b
  obtain ⟨pc, hpc⟩ := place_ex n f c
  obtain ⟨pd, hpd⟩ := place_ex n f d
  have CA : Hid (∀ w', Below w3.heap.size w3 w' → Calls Try.prog 127 #[.int .u64 (a : Int), .slice A n cap] w' fun e' w'' => e' = .returned (.int .i64 (pa : Int)) ∧ w' = w'') := Lib.hid (fun w' h => place_any a pa n cap _ A f hn4 hpa w' (HRow.out.below h))
  have CB : Hid (∀ w', Below w3.heap.size w3 w' → Calls Try.prog 127 #[.int .u64 (b : Int), .slice A n cap] w' fun e' w'' => e' = .returned (.int .i64 (pb : Int)) ∧ w' = w'') := Lib.hid (fun w' h => place_any b pb n cap _ A f hn4 hpb w' (HRow.out.below h))
  have CR : Hid (∀ w', Below w3.heap.size w3 w' → Calls Try.prog 127 #[.int .u64 (c : Int), .slice A n cap] w' fun e' w'' => e' = .returned (.int .i64 (pc : Int)) ∧ w' = w'') := Lib.hid (fun w' h => place_any c pc n cap _ A f hn4 hpc w' (HRow.out.below h))
  have CD : Hid (∀ w', Below w3.heap.size w3 w' → Calls Try.prog 127 #[.int .u64 (d : Int), .slice A n cap] w' fun e' w'' => e' = .returned (.int .i64 (pd : Int)) ∧ w' = w'') := Lib.hid (fun w' h => place_any d pd n cap _ A f hn4 hpd w' (HRow.out.below h))
  have HPa := Lib.hid hpa; have HPb := Lib.hid hpb; have HPc := Lib.hid hpc; have HPd := Lib.hid hpd
  clear hpa hpb hpc hpd
  go_upto_region 4 with (fail)
  go_cut [10] (fun v wc => ∃ g, v = .pointer (some ⟨g, 0, none⟩) ∧ RowAt w3 g na pa pb wc)
  case first =>
    have k0 := K3 w3.drew (Below.refl _ _).drew
    go_region_held3 (fun w' => (Below w3.heap.size w3 w' ∧ w'.cell? ⟨w1.heap.size, 0, none⟩ = some (.int .u64 (a : Int)) ∧ w'.cell? ⟨w1.heap.size, 1, none⟩ = some (.int .u64 (b : Int)) ∧ w'.cell? ⟨w2.heap.size, 0, none⟩ = some (.int .u64 (c : Int)) ∧ w'.cell? ⟨w2.heap.size, 1, none⟩ = some (.int .u64 (d : Int))))
      ((first | with_reducible assumption | (refine K3 _ ?_; ((repeat (first | assumption | exact Below.refl _ _ | (refine Below.alloc ?_ (by first | exact Nat.le_refl _ | omega | (simp; done) | (simp; omega)) _) | refine Below.drew ?_ | (refine Below.setCell ?_ (by first | exact Nat.le_refl _ | omega | (simp; done) | (simp; omega)) _) | (refine Below.trans ?_ (Below.mono (by assumption) (by first | omega | (simp; done) | (simp; omega)))))); done))))
      (first
        | (go_at_call 57; (with_reducible refine (emptyD_any _).mono ?_); rintro e4 w4 ⟨rfl, hb4⟩; obtain ⟨hc4, hf4⟩ := bcell hb4; have hz4 : w3.heap.size < w4.heap.size + 1 := (by have := hb4.size; simp at this; omega))
        | (go_at_call 127; (with_reducible refine (CA.out _ (by repeat (first | assumption | exact Below.refl _ _ | (refine Below.alloc ?_ (by first | exact Nat.le_refl _ | omega | (simp; done) | (simp; omega)) _) | refine Below.drew ?_ | (refine Below.setCell ?_ (by first | exact Nat.le_refl _ | omega | (simp; done) | (simp; omega)) _) | (refine Below.trans ?_ (Below.mono (by assumption) (by first | omega | (simp; done) | (simp; omega))))))).mono ?_); rintro e4 w5 ⟨rfl, rfl⟩)
        | (go_at_call 127; (with_reducible refine (CB.out _ (by repeat (first | assumption | exact Below.refl _ _ | (refine Below.alloc ?_ (by first | exact Nat.le_refl _ | omega | (simp; done) | (simp; omega)) _) | refine Below.drew ?_ | (refine Below.setCell ?_ (by first | exact Nat.le_refl _ | omega | (simp; done) | (simp; omega)) _) | (refine Below.trans ?_ (Below.mono (by assumption) (by first | omega | (simp; done) | (simp; omega))))))).mono ?_); rintro e4 w5 ⟨rfl, rfl⟩))
    all_goals
      go_wp2
      go_meet
      exact ⟨_, rfl, by first | exact Nat.le_refl _ | (have := hb4.size; simp at this; omega), by first | (simp; done) | (have := hb4.size; simp at this; simp [World.setCell]; omega), (by repeat (first | assumption | exact Below.refl _ _ | (refine Below.alloc ?_ (by first | exact Nat.le_refl _ | omega | (simp; done) | (simp; omega)) _) | refine Below.drew ?_ | (refine Below.setCell ?_ (by first | exact Nat.le_refl _ | omega | (simp; done) | (simp; omega)) _) | (refine Below.trans ?_ (Below.mono (by assumption) (by first | omega | (simp; done) | (simp; omega)))))), by first | (simp [go_sem]; done) | (simp [go_sem, hc4]; done), by first | (simp [go_sem]; done) | (simp [go_sem, hc4]; done), by first | (simp [go_sem]; done) | (simp [go_sem, hc4]; done)⟩
  case rest =>
    obtain ⟨g, rfl, hra⟩ := hcut
    have HRa := Lib.hid hra; clear hra
    have K4 : ∀ w', Below wc.heap.size wc w' → (Below wc.heap.size wc w' ∧ w'.cell? ⟨w1.heap.size, 0, none⟩ = some (.int .u64 (a : Int)) ∧ w'.cell? ⟨w1.heap.size, 1, none⟩ = some (.int .u64 (b : Int)) ∧ w'.cell? ⟨w2.heap.size, 0, none⟩ = some (.int .u64 (c : Int)) ∧ w'.cell? ⟨w2.heap.size, 1, none⟩ = some (.int .u64 (d : Int))) := fun w' h => ⟨h, (K3 w' (HRa.out.2.2.1.trans (h.mono HRa.out.2.2.1.size))).2⟩
    have hs4 : w3.heap.size ≤ wc.heap.size := HRa.out.2.2.1.size
    replace CR : Hid (∀ w', Below wc.heap.size wc w' → Calls Try.prog 127 #[.int .u64 (c : Int), .slice A n cap] w' fun e' w'' => e' = .returned (.int .i64 (pc : Int)) ∧ w' = w'') := Lib.hid (fun w' h => CR.out w' (HRa.out.2.2.1.trans (h.mono hs4)))
    replace CD : Hid (∀ w', Below wc.heap.size wc w' → Calls Try.prog 127 #[.int .u64 (d : Int), .slice A n cap] w' fun e' w'' => e' = .returned (.int .i64 (pd : Int)) ∧ w' = w'') := Lib.hid (fun w' h => CD.out w' (HRa.out.2.2.1.trans (h.mono hs4)))
    clear CA CB
    obtain ⟨w4, hw4⟩ : ∃ w4 : World, w4 = wc := ⟨_, rfl⟩
    subst hw4
    go_upto_region 5 with (fail)
    go_cut [11] (fun v wd => ∃ g2, v = .pointer (some ⟨g2, 0, none⟩) ∧ RowAt w4 g2 nc pc pd wd)
    case first =>
      have k0 := K4 w4.drew (Below.refl _ _).drew
      have hl5 : w1.heap.size < w4.heap.size := by omega
      have hl6 : w2.heap.size < w4.heap.size := by omega
      go_region_held3 (fun w' => (Below w4.heap.size w4 w' ∧ w'.cell? ⟨w1.heap.size, 0, none⟩ = some (.int .u64 (a : Int)) ∧ w'.cell? ⟨w1.heap.size, 1, none⟩ = some (.int .u64 (b : Int)) ∧ w'.cell? ⟨w2.heap.size, 0, none⟩ = some (.int .u64 (c : Int)) ∧ w'.cell? ⟨w2.heap.size, 1, none⟩ = some (.int .u64 (d : Int))))
        ((first | with_reducible assumption | (refine K4 _ ?_; ((repeat (first | assumption | exact Below.refl _ _ | (refine Below.alloc ?_ (by first | exact Nat.le_refl _ | omega | (simp; done) | (simp; omega)) _) | refine Below.drew ?_ | (refine Below.setCell ?_ (by first | exact Nat.le_refl _ | omega | (simp; done) | (simp; omega)) _) | (refine Below.trans ?_ (Below.mono (by assumption) (by first | omega | (simp; done) | (simp; omega)))))); done))))
        (first
          | (go_at_call 57; (with_reducible refine (emptyD_any _).mono ?_); rintro e4 w5 ⟨rfl, hb4⟩; obtain ⟨hc4, hf4⟩ := bcell hb4; have hz4 : w4.heap.size < w5.heap.size + 1 := (by have := hb4.size; simp at this; omega))
          | (go_at_call 127; (with_reducible refine (CR.out _ (by repeat (first | assumption | exact Below.refl _ _ | (refine Below.alloc ?_ (by first | exact Nat.le_refl _ | omega | (simp; done) | (simp; omega)) _) | refine Below.drew ?_ | (refine Below.setCell ?_ (by first | exact Nat.le_refl _ | omega | (simp; done) | (simp; omega)) _) | (refine Below.trans ?_ (Below.mono (by assumption) (by first | omega | (simp; done) | (simp; omega))))))).mono ?_); rintro e4 w5 ⟨rfl, rfl⟩)
          | (go_at_call 127; (with_reducible refine (CD.out _ (by repeat (first | assumption | exact Below.refl _ _ | (refine Below.alloc ?_ (by first | exact Nat.le_refl _ | omega | (simp; done) | (simp; omega)) _) | refine Below.drew ?_ | (refine Below.setCell ?_ (by first | exact Nat.le_refl _ | omega | (simp; done) | (simp; omega)) _) | (refine Below.trans ?_ (Below.mono (by assumption) (by first | omega | (simp; done) | (simp; omega))))))).mono ?_); rintro e4 w5 ⟨rfl, rfl⟩))
      all_goals
        go_wp2
        go_meet
        exact ⟨_, rfl, by first | exact Nat.le_refl _ | (have := hb4.size; simp at this; omega), by first | (simp; done) | (have := hb4.size; simp at this; simp [World.setCell]; omega), (by repeat (first | assumption | exact Below.refl _ _ | (refine Below.alloc ?_ (by first | exact Nat.le_refl _ | omega | (simp; done) | (simp; omega)) _) | refine Below.drew ?_ | (refine Below.setCell ?_ (by first | exact Nat.le_refl _ | omega | (simp; done) | (simp; omega)) _) | (refine Below.trans ?_ (Below.mono (by assumption) (by first | omega | (simp; done) | (simp; omega)))))), by first | (simp [go_sem]; done) | (simp [go_sem, hc4]; done), by first | (simp [go_sem]; done) | (simp [go_sem, hc4]; done), by first | (simp [go_sem]; done) | (simp [go_sem, hc4]; done)⟩
    case rest =>
      obtain ⟨g2, rfl, hrb⟩ := hcut
      have hs5 : w4.heap.size ≤ wc.heap.size := hrb.2.2.1.size
      obtain ⟨ha1, ha2, ha3, ha4, ha5, ha6⟩ := HRa.out
      have b0 := (hrb.2.2.1.cell (p := ⟨g, 0, none⟩) ha2).trans ha4
      have b1 := (hrb.2.2.1.cell (p := ⟨g, 1, none⟩) ha2).trans ha5
      have b2 := (hrb.2.2.1.cell (p := ⟨g, 2, none⟩) ha2).trans ha6
      have hg1 : g < wc.heap.size := by omega
      obtain ⟨hb1, hb2, hb3, hb4, hb5, hb6⟩ := hrb
      have HBE : Hid (Below (w.heap.size + 4) W0 wc) := Lib.hid ((K2.out w3 HZ3.out).1.trans ((ha3.trans (hb3.mono hs4)).mono (by omega)))
      obtain ⟨-, -, -, r0, f0, r1, f1, r2, f2, q0, x0, q1, x1, q2, x2⟩ := KS.out wc HBE.out
      have hz : w.heap.size + 4 ≤ wc.heap.size := by omega
      have hz1 : w.heap.size + 1 + 1 < wc.heap.size := by omega
      have hz2 : w.heap.size + 1 + 1 + 1 < wc.heap.size := by omega
      have hng : g ≠ w.heap.size + 1 + 1 := by omega
      have hng2 : g2 ≠ w.heap.size + 1 + 1 := by omega
      have hng3 : g2 ≠ w.heap.size + 1 + 1 + 1 := by omega
      have hni : IntKind.i64.wrap ((n : Int) + 1) = (n : Int) + 1 := IntWalk.i64_in _ ⟨by omega, by omega⟩
      have hnj : IntKind.i64.wrap (((n : Int) + 1) * 4) = ((n : Int) + 1) * 4 := IntWalk.i64_in _ ⟨by omega, by omega⟩
      have hnk : IntKind.i64.wrap (4 * ((n : Int) + 1)) = 4 * ((n : Int) + 1) := IntWalk.i64_in _ ⟨by omega, by omega⟩
      clear ha3 hb3 K4 K3
      go_wp2_with fail
      go_region
      all_goals
        go_wp2
        refine bodyPost_ret (v := .tuple #[.agg #[.bool na, .int .i64 (pa : Int), .int .i64 (pb : Int)], .agg #[.bool nc, .int .i64 (pc : Int), .int .i64 (pd : Int)], .int .i64 (4 * ((n : Int) + 1))]) (by simp [results, Try.results95, go_sem, *]) rfl ?_
        refine ⟨n, f, pa, pb, pc, pd, hn4, HCut.out, HPa.out, HPb.out, HPc.out, HPd.out, rfl, ?_⟩
        have HBF := (KS.out wc HBE.out).1
        repeat (first | (refine Below.setCell ?_ (by first | omega | (simp; omega)) _) | (with_reducible refine Below.drew ?_))
        exact HBF

end Go.Proofs.Ytamaeggkpdgaiaa
