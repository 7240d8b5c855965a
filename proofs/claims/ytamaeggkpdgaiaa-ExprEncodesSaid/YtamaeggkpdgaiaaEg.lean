/- The walks of the reader's intervals: pack.take, pack.Get, constant. -/
import Derived.Test.YtamaeggkpdgaiaaEf
import Derived.Deep.RegionHeld3
namespace Go.Proofs.Ytamaeggkpdgaiaa
open Go.RowKit

theorem join8 (x k : Nat) (hk : k < 8) : bits .or .u64 ((x % 256 ^ k : Nat) : Int) (((x / 256 ^ k % 256) * 256 ^ k : Nat) : Int) = ((x % 256 ^ (k + 1) : Nat) : Int) := by
  have hp : (256 : Nat) ^ k = 2 ^ (8 * k) := by rw [Nat.pow_mul]
  have h8 : (256 : Nat) ^ 8 = 18446744073709551616 := by decide
  have hle : (256 : Nat) ^ (k + 1) ≤ 256 ^ 8 := Nat.pow_le_pow_right (by decide) (by omega)
  have hpos : 0 < (256 : Nat) ^ k := Nat.pow_pos (by decide)
  have h1 : x % 256 ^ k < 256 ^ k := Nat.mod_lt _ hpos
  have h2 : x % 256 ^ (k + 1) = x % 256 ^ k + 256 ^ k * (x / 256 ^ k % 256) := Nat.mod_pow_succ
  have h3 : x % 256 ^ (k + 1) < 256 ^ (k + 1) := Nat.mod_lt _ (Nat.pow_pos (by decide))
  have hm : x % 256 ^ k + (x / 256 ^ k % 256) * 256 ^ k = x % 256 ^ (k + 1) := by rw [h2, Nat.mul_comm]
  rw [bits_or_u64_nat _ _ (by omega) (by omega)]
  congr 1
  rw [← hm, hp, Nat.or_comm, Nat.add_comm]
  exact nat_join (8 * k) _ _ (Nat.mul_mod_left _ _) (by rw [← hp]; exact h1)

set_option maxRecDepth 100000 in
set_option maxHeartbeats 600000 in
theorem take8_any (b p cap x : Nat) (hx : W64 x) (w : World) (hc : ∀ i, i < 8 → w.cell? ⟨b, p + i, none⟩ = some (.int .u8 ((x / 256 ^ i % 256 : Nat) : Int))) :
    Calls Try.prog 160 #[.slice (some ⟨b, p, none⟩) 8 cap] w fun e w' => e = .returned (.float .f64 x) ∧ w = w' := by
  have HC := Lib.hid hc; clear hc
  go_enter Try.func160, Try.ntmps160
  go_wp2
  go_loop [3, 5] (fun v iv => ∃ k : Nat, k ≤ 8 ∧ v = .int .u64 ((x % 256 ^ k : Nat) : Int) ∧ iv = .int .i64 (k : Int)) (fun _ iv => 8 - (intOf iv).toNat)
  case atStart => exact ⟨0, by omega, by simp [Nat.mod_one], rfl⟩
  case round =>
    obtain ⟨k, hk, rfl, rfl⟩ := hrel
    by_cases hlt : k < 8
    · have hlt' : (k : Int) < 8 := by omega
      have c0 := HC.out k hlt
      have hj := join8 x k hlt
      have hlz : x / 256 ^ k % 256 < 256 := Nat.mod_lt _ (by decide)
      have hz2 : (((x / 256 ^ k % 256) * 256 ^ k : Nat) : Int) = ((x / 256 ^ k % 256 : Nat) : Int) * 2 ^ (8 * k) := by rw [show (256 : Nat) ^ k = 2 ^ (8 * k) from by rw [Nat.pow_mul]]; simp
      rw [hz2] at hj
      generalize ((x % 256 ^ k : Nat) : Int) = X at *
      obtain ⟨X', hX'⟩ : ∃ X' : Int, X' = ((x % 256 ^ (k + 1) : Nat) : Int) := ⟨_, rfl⟩
      rw [← hX'] at hj
      clear hz2
      obtain ⟨z, hz⟩ : ∃ z : Nat, z = x / 256 ^ k % 256 := ⟨_, rfl⟩
      rw [← hz] at c0 hj hlz
      have hzb : z * 256 ^ k < 18446744073709551616 := by
        have h8 : (256 : Nat) ^ 8 = 18446744073709551616 := by decide
        have hle : (256 : Nat) ^ (k + 1) ≤ 256 ^ 8 := Nat.pow_le_pow_right (by decide) (by omega)
        have : z * 256 ^ k < 256 * 256 ^ k := Nat.mul_lt_mul_of_pos_right hlz (Nat.pow_pos (by decide))
        rw [Nat.pow_succ, Nat.mul_comm] at hle
        omega
      have hw : IntKind.u64.wrap ((z : Int) * 2 ^ (8 * k)) = (z : Int) * 2 ^ (8 * k) := by
        have e : ((z * 256 ^ k : Nat) : Int) = (z : Int) * 2 ^ (8 * k) := by rw [show (256 : Nat) ^ k = 2 ^ (8 * k) from by rw [Nat.pow_mul]]; simp
        rw [← e, IntKind.wrap_u64]; omega
      clear hz hzb
      have HX := Lib.hid hX'; clear hX'
      go_wp2
      go_round
      case rel => exact ⟨k + 1, by omega, by rw [HX.out], by go_num⟩
      case measure => simp [intOf]; omega
    · have : k = 8 := by omega
      subst this
      have h8 : x % 256 ^ 8 = x := by rw [show (256 : Nat) ^ 8 = 18446744073709551616 from by decide]; exact Nat.mod_eq_of_lt hx
      rw [h8]
      go_wp2
      go_ret
      exact ⟨rfl, rfl⟩

/-- Sixteen bytes lie at p. -/
def At16 (w : World) (b p x y : Nat) : Prop := (∀ i, i < 8 → w.cell? ⟨b, p + i, none⟩ = some (.int .u8 ((x / 256 ^ i % 256 : Nat) : Int))) ∧ ∀ i, i < 8 → w.cell? ⟨b, p + 8 + i, none⟩ = some (.int .u8 ((y / 256 ^ i % 256 : Nat) : Int))

set_option maxRecDepth 100000 in
set_option maxHeartbeats 1000000 in
theorem get_any (b p x y : Nat) (hx : W64 x) (hy : W64 y) (hv : validD x y = true) (w : World) (hb : b < w.heap.size) (hc : At16 w b p x y) :
    Calls Try.prog 151 #[.slice (some ⟨b, p, none⟩) 16 16] w fun e w' => e = .returned (.tuple #[.agg #[.float .f64 x, .float .f64 y], .int .i64 0]) ∧ Below w.heap.size w w' := by
  obtain ⟨V1, hV1⟩ : ∃ V : World, V = w.alloc (.cells #[.float .f64 0, .float .f64 0] 31) := ⟨_, rfl⟩
  have hs1 : V1.heap.size = w.heap.size + 1 := by rw [hV1]; simp
  have HB1 : Hid (Below w.heap.size w V1) := Lib.hid (by rw [hV1]; exact (Below.refl _ _).alloc (Nat.le_refl _) _)
  have HC : Hid (∀ w', Below V1.heap.size V1 w' → At16 w' b p x y) := Lib.hid (fun w' h => by
    have h2 := HB1.out.trans (h.mono (by omega))
    exact ⟨fun i hi => (h2.cell (p := ⟨b, p + i, none⟩) hb).trans (hc.1 i hi), fun i hi => (h2.cell (p := ⟨b, p + 8 + i, none⟩) hb).trans (hc.2 i hi)⟩)
  have KR : Hid (∀ w', Below V1.heap.size V1 w' → w'.cell? ⟨w.heap.size, 0, none⟩ = some (.float .f64 0) ∧ w'.cell? ⟨w.heap.size, 1, none⟩ = some (.float .f64 0) ∧ w'.frozen? ⟨w.heap.size, 0, none⟩ = false ∧ w'.frozen? ⟨w.heap.size, 1, none⟩ = false) := Lib.hid (fun w' h => by
    have h2 : Below (w.heap.size + 1) (w.alloc (.cells [.float .f64 0, .float .f64 0].toArray 31)) w' := by rw [← hs1]; exact (show V1 = _ from hV1) ▸ h
    exact ⟨cells_box w w' _ h2 0 _ rfl, cells_box w w' _ h2 1 _ rfl, frozen_box w w' _ h2 0, frozen_box w w' _ h2 1⟩)
  have CT1 : Hid (∀ w', Below V1.heap.size V1 w' → Calls Try.prog 160 #[.slice (some ⟨b, p, none⟩) 8 8] w' fun e w'' => e = .returned (.float .f64 x) ∧ w' = w'') := Lib.hid (fun w' h => take8_any b p 8 x hx w' (HC.out w' h).1)
  have CT2 : Hid (∀ w', Below V1.heap.size V1 w' → Calls Try.prog 160 #[.slice (some ⟨b, p + 8, none⟩) 8 8] w' fun e w'' => e = .returned (.float .f64 y) ∧ w' = w'') := Lib.hid (fun w' h => take8_any b (p + 8) 8 y hy w' (HC.out w' h).2)
  have CV := Lib.hid (fun w => validI_any x y hx hy w)
  rw [hv] at CV
  clear hx hy hv hc hb
  go_enter Try.func151, Try.ntmps151
  go_wp2_with fail
  rw [← hV1]
  clear hV1
  have kk : Below V1.heap.size V1 V1.drew := (Below.refl _ _).drew
  go_region_held3 (fun w' => Below V1.heap.size V1 w')
    ((first | with_reducible assumption | ((repeat (first | with_reducible assumption | with_reducible exact Below.refl _ _ | (with_reducible refine Below.alloc ?_ (by first | exact Nat.le_refl _ | omega | (simp; done) | (simp; omega)) _) | with_reducible refine Below.drew ?_ | (with_reducible refine Below.trans ?_ (Below.mono (by with_reducible assumption) (by first | omega | (simp; done) | (simp; omega)))))); done)))
    (first
      | (go_at_call 160; (with_reducible refine (CT1.out _ (by first | with_reducible assumption | ((repeat (first | with_reducible assumption | with_reducible exact Below.refl _ _ | (with_reducible refine Below.alloc ?_ (by first | exact Nat.le_refl _ | omega | (simp; done) | (simp; omega)) _) | with_reducible refine Below.drew ?_ | (with_reducible refine Below.trans ?_ (Below.mono (by with_reducible assumption) (by first | omega | (simp; done) | (simp; omega)))))); done))).mono ?_); rintro e4 w5 ⟨rfl, rfl⟩)
      | (go_at_call 160; (with_reducible refine (CT2.out _ (by first | with_reducible assumption | ((repeat (first | with_reducible assumption | with_reducible exact Below.refl _ _ | (with_reducible refine Below.alloc ?_ (by first | exact Nat.le_refl _ | omega | (simp; done) | (simp; omega)) _) | with_reducible refine Below.drew ?_ | (with_reducible refine Below.trans ?_ (Below.mono (by with_reducible assumption) (by first | omega | (simp; done) | (simp; omega)))))); done))).mono ?_); rintro e4 w5 ⟨rfl, rfl⟩))
  all_goals
    go_wp2_with fail
    refine (CV.out _).mono ?_
    rintro e5 w5 ⟨rfl, hb5⟩
    have HZ : Hid (Below (V1.heap.size + 1) (V1.alloc (.cells #[.float .f64 x, .float .f64 y] 31)) w5) := Lib.hid ((Below.refl _ _).drew.trans (hb5.mono (by simp)))
    have q0 := cells_box V1 w5 [.float .f64 x, .float .f64 y] HZ.out 0 _ rfl
    have q1 := cells_box V1 w5 [.float .f64 x, .float .f64 y] HZ.out 1 _ rfl
    have HE : Hid (Below V1.heap.size V1 w5) := Lib.hid (((Below.refl _ _).alloc (Nat.le_refl _) _).trans (HZ.out.mono (by omega)))
    obtain ⟨r0, r1, f0, f1⟩ := KR.out w5 HE.out
    rw [hs1] at q0 q1
    have hz : w.heap.size + 2 ≤ w5.heap.size := by have := HZ.out.size; simp at this; omega
    have hz1 : w.heap.size < w5.heap.size := by omega
    have hz2 : w.heap.size + 1 < w5.heap.size := by omega
    clear hb5 hs1 kk
    go_wp2
    all_goals
      refine bodyPost_ret (v := .tuple #[.agg #[.float .f64 x, .float .f64 y], .int .i64 0]) (by simp [results, Try.results151, go_sem, *]) rfl ⟨rfl, ?_⟩
      have HF : Below w.heap.size w w5 := HB1.out.trans (HE.out.mono (by have := HB1.out.size; omega))
      repeat (first | ((with_reducible refine Below.setCell ?_ ?_ _); rotate_left; focus (first | omega | (simp; done) | (simp; omega))) | (with_reducible refine Below.drew ?_))
      exact HF

end Go.Proofs.Ytamaeggkpdgaiaa
