/- The walk of vergeref9.cuts. -/
import Derived.Test.YtamaeggkpdgaiaaHi
import Derived.Test.YtamaeggkpdgaiaaWh
import Derived.BigQuiet
namespace Go.Proofs.Ytamaeggkpdgaiaa
open Go.RowKit

theorem infoU : (Try.prog.info? 25).map (fun i => (i.zero, i.size, i.bytes)) = some (some (.int .u64 0), 1, 8) := by kernel_rfl
def CutsP (E : Nat → Nat) (e : Ending) (w w' : World) : Prop := ∃ A n cap f, e = .returned (.slice A n cap) ∧ RowN w' w'.heap.size 1 A n (fC f) ∧ CutsD E n f ∧ Below w.heap.size w w'
theorem infB {z : Nat} : (((z % 9223372036854775808 : Nat) : Int) == 9218868437227405312) = true ↔ InfP z := by unfold InfP; simp; omega
theorem four_cell {w : World} {g : Nat} {x y u v : Nat} (h0 : w.cell? ⟨g, 0, none⟩ = some (.int .u64 (x : Int))) (h1 : w.cell? ⟨g, 1, none⟩ = some (.int .u64 (y : Int))) (h2 : w.cell? ⟨g, 2, none⟩ = some (.int .u64 (u : Int))) (h3 : w.cell? ⟨g, 3, none⟩ = some (.int .u64 (v : Int))) :
    ∀ i < 4, w.cell? ⟨g, i, none⟩ = some (.int .u64 (four x y u v i : Int)) := by
  intro i hi
  match i, hi with
  | 0, _ => exact h0
  | 1, _ => exact h1
  | 2, _ => exact h2
  | 3, _ => exact h3

set_option maxRecDepth 100000 in
set_option maxHeartbeats 1500000 in
theorem cuts_any (x y u v : Nat) (hE : Hid (∀ j, j < 4 → W64 (four x y u v j) ∧ nanD (four x y u v j) = false)) (inj : Hid (∀ i j, i < 4 → j < 4 → kD (four x y u v i) = kD (four x y u v j) → four x y u v i = four x y u v j)) (w : World) :
    Calls Try.prog 126 #[.agg #[.int .u64 (x : Int), .int .u64 (y : Int)], .agg #[.int .u64 (u : Int), .int .u64 (v : Int)]] w fun e w' => CutsP (four x y u v) e w w' := by
  obtain ⟨i0, hi, hz0, hz1, hz2⟩ := info_parts infoU
  have HB0 : Hid (Below w.heap.size w (((w.alloc (.cells #[.int .u64 (x : Int), .int .u64 (y : Int)] 27)).alloc (.cells #[.int .u64 (u : Int), .int .u64 (v : Int)] 27)).alloc (.cells #[.int .u64 (x : Int), .int .u64 (y : Int), .int .u64 (u : Int), .int .u64 (v : Int)] 25))) := Lib.hid (below3 _ _ _ _)
  have KE : Hid (∀ w', Below (w.heap.size + 3) (((w.alloc (.cells #[.int .u64 (x : Int), .int .u64 (y : Int)] 27)).alloc (.cells #[.int .u64 (u : Int), .int .u64 (v : Int)] 27)).alloc (.cells #[.int .u64 (x : Int), .int .u64 (y : Int), .int .u64 (u : Int), .int .u64 (v : Int)] 25)) w' →
      (Below w.heap.size w w' ∧ (∀ i < 4, w'.cell? ⟨w.heap.size + 1 + 1, i, none⟩ = some (.int .u64 (four x y u v i : Int))) ∧ w.heap.size + 3 ≤ w'.heap.size)) :=
    Lib.hid (fun w' h => ⟨HB0.out.trans (h.mono (by omega)), four_cell ((h.cell (p := ⟨w.heap.size + 1 + 1, 0, none⟩) (by simp)).trans (by simp [go_sem])) ((h.cell (p := ⟨w.heap.size + 1 + 1, 1, none⟩) (by simp)).trans (by simp [go_sem])) ((h.cell (p := ⟨w.heap.size + 1 + 1, 2, none⟩) (by simp)).trans (by simp [go_sem])) ((h.cell (p := ⟨w.heap.size + 1 + 1, 3, none⟩) (by simp)).trans (by simp [go_sem])), by have := h.size; simpa using this⟩)
  generalize four x y u v = E at hE inj KE ⊢
  go_enter Try.func126, Try.ntmps126
  go_wp2
  obtain ⟨W0, hW0⟩ : ∃ W0 : World, W0 = (((w.alloc (.cells #[.int .u64 (x : Int), .int .u64 (y : Int)] 27)).alloc (.cells #[.int .u64 (u : Int), .int .u64 (v : Int)] 27)).alloc (.cells #[.int .u64 (x : Int), .int .u64 (y : Int), .int .u64 (u : Int), .int .u64 (v : Int)] 25)) := ⟨_, rfl⟩
  rw [← hW0] at KE HB0 ⊢
  have HSz : Hid (W0.heap.size = w.heap.size + 3) := Lib.hid (by rw [hW0]; simp)
  clear hW0
  go_loopw [6] (fun lv wr => ∃ (n : Nat) (f : Nat → Nat), Hid (wr.ownsRow (w.heap.size + 3) 25 1 lv n (flatN n 1 (fC f)) ∧ CutsI E n f ∧ Below (w.heap.size + 3) W0 wr) ∧ n ≤ 4 ∧ ∃ A cap, lv = .slice A n cap) (fun lv _ => match lv with | .slice _ n _ => 4 - n | _ => 0)
  case atStart => exact ⟨0, fun _ => 0, Lib.hid ⟨⟨rfl, Or.inl ⟨rfl, rfl⟩⟩, cuts_zero _ _, Below.refl _ _⟩, by omega, none, 0, rfl⟩
  case round =>
    obtain ⟨n, f, HL, hn4, A, cap, rfl⟩ := hrel
    generalize wr = w1 at *
    have HW := Lib.hid HL.out.2.2
    have hw3 : w.heap.size + 3 ≤ w1.heap.size := (KE.out w1 HW.out).2.2
    by_cases h4 : n = 4
    · subst h4
      go_wp2
      go_ret
      exact ⟨A, 4, cap, f, rfl, RowN.of_own HL.out.1, cuts_full HL.out.2.1, (KE.out w1 HW.out).1⟩
    · have hlt4 : n < 4 := by omega
      have hlt4' : (n : Int) < 4 := by omega
      go_wp2
      go_loopw [7, 8, 9] (fun bv fv iv wq => ∃ (i b : Nat) (fd : Bool), i ≤ 4 ∧ bv = .int .i64 (b : Int) ∧ fv = .bool fd ∧ iv = .int .i64 (i : Int) ∧ Hid (BestI E n f i b fd) ∧ Hid (Below w1.heap.size w1 wq)) (fun _ _ iv _ => 4 - (intOf iv).toNat)
      case atStart => exact ⟨0, 0, false, by omega, rfl, rfl, rfl, Lib.hid (best_zero E n f), Lib.hid (Below.refl _ _)⟩
      case round =>
        obtain ⟨i, b, fd, hi4, rfl, rfl, rfl, HBst, HQ⟩ := hrel
        by_cases hlt : i < 4
        · have hlt' : (i : Int) < 4 := by omega
          have hbl' : (b : Int) < 4 := by have := HBst.out.le; omega
          obtain ⟨b1, C1, IB1⟩ : ∃ b1 : Bool, Hid (∀ w : World, Calls Try.prog 111 #[.int .u64 (E i : Int)] w fun e w' => e = .returned (.bool b1) ∧ w = w') ∧ Hid (b1 = true ↔ InfP (E i)) :=
            ⟨_, Lib.hid (fun w => isInf3_any (E i) (hE.out i hlt).1 w), Lib.hid infB⟩
          cases b1
          case true =>
            obtain ⟨-, ce, hz⟩ := KE.out wr (HW.out.trans (HQ.out.mono hw3))
            have cE := ce i hlt
            have hzl : w.heap.size + 1 + 1 < wr.heap.size := by omega
            have cB := ce b HBst.out.le
            clear ce
            go_wp2_with fail
            refine region_quiet (by kernel_rfl) (by kernel_rfl) ?_
            repeat (go_big_quiet_step (first | (with_reducible exact qcall_same (C1.out _))))
            refine wpQuiet_nil ?_
            intro w2 hbw2
            have Hw2 := Lib.hid (HQ.out.trans (hbw2.mono HQ.out.size)); clear hbw2
            clear cE cB hz hzl

            go_wp2
            try simp only [Int.natCast_add, Int.cast_ofNat_Int]
            go_roundw
            case rel => exact ⟨i + 1, b, fd, by omega, rfl, rfl, by go_num, Lib.hid (best_skip HBst.out (fun h => h.1 (IB1.out.1 (by trivial)))), Hw2⟩
            case measure => simp [intOf]; omega
          case false =>
            have HNI : Hid (¬ InfP (E i)) := Lib.hid (fun h => absurd (IB1.out.2 h) (by decide))
            rcases Nat.eq_zero_or_pos n with hn0 | hn0
            · subst hn0
              have HC : Hid (Cand E 0 f i) := Lib.hid ((cand_first i).2 HNI.out)
              cases fd
              case false =>
                obtain ⟨-, ce, hz⟩ := KE.out wr (HW.out.trans (HQ.out.mono hw3))
                have cE := ce i hlt
                have hzl : w.heap.size + 1 + 1 < wr.heap.size := by omega
                have cB := ce b HBst.out.le
                clear ce
                go_wp2_with fail
                refine region_quiet (by kernel_rfl) (by kernel_rfl) ?_
                repeat (go_big_quiet_step (first | (with_reducible exact qcall_same (C1.out _))))
                refine wpQuiet_nil ?_
                intro w2 hbw2
                have Hw2 := Lib.hid (HQ.out.trans (hbw2.mono HQ.out.size)); clear hbw2
                clear cE cB hz hzl

                obtain ⟨-, ce, hz⟩ := KE.out w2 (HW.out.trans (Hw2.out.mono hw3))
                have cE := ce i hlt
                have hzl : w.heap.size + 1 + 1 < w2.heap.size := by omega
                have cB := ce b HBst.out.le
                clear ce
                go_wp2_with fail
                refine region_quiet (by kernel_rfl) (by kernel_rfl) ?_
                repeat (go_big_quiet_step (fail))
                refine wpQuiet_nil ?_
                intro w3 hbw3
                have Hw3 := Lib.hid (Hw2.out.trans (hbw3.mono Hw2.out.size)); clear hbw3
                clear cE cB hz hzl

                go_wp2
                try simp only [Int.natCast_add, Int.cast_ofNat_Int]
                go_roundw
                case rel => exact ⟨i + 1, i, true, by omega, rfl, rfl, by go_num, Lib.hid (best_take HBst.out hlt HC.out (fun h => absurd h (by decide))), Hw3⟩
                case measure => simp [intOf]; omega
              case true =>
                obtain ⟨b3, C3, IB3⟩ : ∃ b3 : Bool, Hid (∀ w : World, Calls Try.prog 58 #[.int .u64 (E b : Int), .int .u64 (E i : Int)] w fun e w' => e = .returned (.bool b3) ∧ w = w') ∧ Hid (b3 = true ↔ kD (E i) < kD (E b)) :=
                  ⟨_, Lib.hid (fun w => aboveD_any (E b) (E i) (hE.out b HBst.out.le).1 (hE.out i hlt).1 w), Lib.hid (by rw [aboveD_eq (hE.out b HBst.out.le).1 (hE.out i hlt).1, (hE.out b HBst.out.le).2, (hE.out i hlt).2]; simp)⟩
                cases b3
                case true =>
                  obtain ⟨-, ce, hz⟩ := KE.out wr (HW.out.trans (HQ.out.mono hw3))
                  have cE := ce i hlt
                  have hzl : w.heap.size + 1 + 1 < wr.heap.size := by omega
                  have cB := ce b HBst.out.le
                  clear ce
                  go_wp2_with fail
                  refine region_quiet (by kernel_rfl) (by kernel_rfl) ?_
                  repeat (go_big_quiet_step (first | (with_reducible exact qcall_same (C1.out _))))
                  refine wpQuiet_nil ?_
                  intro w2 hbw2
                  have Hw2 := Lib.hid (HQ.out.trans (hbw2.mono HQ.out.size)); clear hbw2
                  clear cE cB hz hzl

                  obtain ⟨-, ce, hz⟩ := KE.out w2 (HW.out.trans (Hw2.out.mono hw3))
                  have cE := ce i hlt
                  have hzl : w.heap.size + 1 + 1 < w2.heap.size := by omega
                  have cB := ce b HBst.out.le
                  clear ce
                  go_wp2_with fail
                  refine region_quiet (by kernel_rfl) (by kernel_rfl) ?_
                  repeat (go_big_quiet_step (first | (with_reducible exact qcall_same (C3.out _))))
                  refine wpQuiet_nil ?_
                  intro w3 hbw3
                  have Hw3 := Lib.hid (Hw2.out.trans (hbw3.mono Hw2.out.size)); clear hbw3
                  clear cE cB hz hzl

                  go_wp2
                  try simp only [Int.natCast_add, Int.cast_ofNat_Int]
                  go_roundw
                  case rel => exact ⟨i + 1, i, true, by omega, rfl, rfl, by go_num, Lib.hid (best_take HBst.out hlt HC.out (fun _ => IB3.out.1 (by trivial))), Hw3⟩
                  case measure => simp [intOf]; omega
                case false =>
                  obtain ⟨-, ce, hz⟩ := KE.out wr (HW.out.trans (HQ.out.mono hw3))
                  have cE := ce i hlt
                  have hzl : w.heap.size + 1 + 1 < wr.heap.size := by omega
                  have cB := ce b HBst.out.le
                  clear ce
                  go_wp2_with fail
                  refine region_quiet (by kernel_rfl) (by kernel_rfl) ?_
                  repeat (go_big_quiet_step (first | (with_reducible exact qcall_same (C1.out _))))
                  refine wpQuiet_nil ?_
                  intro w2 hbw2
                  have Hw2 := Lib.hid (HQ.out.trans (hbw2.mono HQ.out.size)); clear hbw2
                  clear cE cB hz hzl

                  obtain ⟨-, ce, hz⟩ := KE.out w2 (HW.out.trans (Hw2.out.mono hw3))
                  have cE := ce i hlt
                  have hzl : w.heap.size + 1 + 1 < w2.heap.size := by omega
                  have cB := ce b HBst.out.le
                  clear ce
                  go_wp2_with fail
                  refine region_quiet (by kernel_rfl) (by kernel_rfl) ?_
                  repeat (go_big_quiet_step (first | (with_reducible exact qcall_same (C3.out _))))
                  refine wpQuiet_nil ?_
                  intro w3 hbw3
                  have Hw3 := Lib.hid (Hw2.out.trans (hbw3.mono Hw2.out.size)); clear hbw3
                  clear cE cB hz hzl

                  go_wp2
                  try simp only [Int.natCast_add, Int.cast_ofNat_Int]
                  go_roundw
                  case rel => exact ⟨i + 1, b, true, by omega, rfl, rfl, by go_num, Lib.hid (best_keep HBst.out (fun h => absurd (IB3.out.2 h) (by decide))), Hw3⟩
                  case measure => simp [intOf]; omega
            · obtain ⟨m, rfl⟩ : ∃ m, n = m + 1 := ⟨n - 1, by omega⟩
              obtain ⟨lb, lo, hA, hlb, hc⟩ := RowN.of_own HL.out.1 (by omega)
              have CL : Hid (w1.cell? ⟨lb, lo + m, none⟩ = some (.int .u64 (f m : Int))) := Lib.hid (by have := hc m (by omega) 0 (by omega); simpa [fC] using this)
              clear hc
              subst hA
              have hm0 : (0 : Int) < ((m + 1 : Nat) : Int) := by omega
              have hm1 : (0 : Int) < (m : Int) + 1 := by omega
              obtain ⟨jm, hjm, ejm, -⟩ := HL.out.2.1.of m (by omega)
              obtain ⟨b2, C2, IB2⟩ : ∃ b2 : Bool, Hid (∀ w : World, Calls Try.prog 58 #[.int .u64 (E i : Int), .int .u64 (f m : Int)] w fun e w' => e = .returned (.bool b2) ∧ w = w') ∧ Hid (b2 = true ↔ kD (f m) < kD (E i)) :=
                ⟨_, Lib.hid (fun w => aboveD_any (E i) (f m) (hE.out i hlt).1 (by rw [ejm]; exact (hE.out jm hjm).1) w), Lib.hid (by rw [aboveD_eq (hE.out i hlt).1 (by rw [ejm]; exact (hE.out jm hjm).1), (hE.out i hlt).2, show nanD (f m) = false from by rw [ejm]; exact (hE.out jm hjm).2]; simp)⟩
              clear ejm
              cases b2
              case false =>
                obtain ⟨-, ce, hz⟩ := KE.out wr (HW.out.trans (HQ.out.mono hw3))
                have cE := ce i hlt
                have hzl : w.heap.size + 1 + 1 < wr.heap.size := by omega
                have cB := ce b HBst.out.le
                clear ce
                have cl := (HQ.out.cell (p := ⟨lb, lo + m, none⟩) hlb).trans CL.out
                have hzm : lb < wr.heap.size := Nat.lt_of_lt_of_le hlb HQ.out.size
                go_wp2_with fail
                refine region_quiet (by kernel_rfl) (by kernel_rfl) ?_
                repeat (go_big_quiet_step (first | (with_reducible exact qcall_same (C1.out _)) | (with_reducible exact qcall_same (C2.out _))))
                refine wpQuiet_nil ?_
                intro w2 hbw2
                have Hw2 := Lib.hid (HQ.out.trans (hbw2.mono HQ.out.size)); clear hbw2
                clear cE cB hz hzl cl hzm

                go_wp2
                try simp only [Int.natCast_add, Int.cast_ofNat_Int]
                go_roundw
                case rel => exact ⟨i + 1, b, fd, by omega, rfl, rfl, by go_num, Lib.hid (best_skip HBst.out (fun h => absurd (IB2.out.2 ((cand_last HL.out.2.1 i).1 h).2) (by decide))), Hw2⟩
                case measure => simp [intOf]; omega
              case true =>
                have HC : Hid (Cand E (m + 1) f i) := Lib.hid ((cand_last HL.out.2.1 i).2 ⟨HNI.out, IB2.out.1 (by trivial)⟩)
                cases fd
                case false =>
                  obtain ⟨-, ce, hz⟩ := KE.out wr (HW.out.trans (HQ.out.mono hw3))
                  have cE := ce i hlt
                  have hzl : w.heap.size + 1 + 1 < wr.heap.size := by omega
                  have cB := ce b HBst.out.le
                  clear ce
                  have cl := (HQ.out.cell (p := ⟨lb, lo + m, none⟩) hlb).trans CL.out
                  have hzm : lb < wr.heap.size := Nat.lt_of_lt_of_le hlb HQ.out.size
                  go_wp2_with fail
                  refine region_quiet (by kernel_rfl) (by kernel_rfl) ?_
                  repeat (go_big_quiet_step (first | (with_reducible exact qcall_same (C1.out _)) | (with_reducible exact qcall_same (C2.out _))))
                  refine wpQuiet_nil ?_
                  intro w2 hbw2
                  have Hw2 := Lib.hid (HQ.out.trans (hbw2.mono HQ.out.size)); clear hbw2
                  clear cE cB hz hzl cl hzm

                  obtain ⟨-, ce, hz⟩ := KE.out w2 (HW.out.trans (Hw2.out.mono hw3))
                  have cE := ce i hlt
                  have hzl : w.heap.size + 1 + 1 < w2.heap.size := by omega
                  have cB := ce b HBst.out.le
                  clear ce
                  have cl := (Hw2.out.cell (p := ⟨lb, lo + m, none⟩) hlb).trans CL.out
                  have hzm : lb < w2.heap.size := Nat.lt_of_lt_of_le hlb Hw2.out.size
                  go_wp2_with fail
                  refine region_quiet (by kernel_rfl) (by kernel_rfl) ?_
                  repeat (go_big_quiet_step (fail))
                  refine wpQuiet_nil ?_
                  intro w3 hbw3
                  have Hw3 := Lib.hid (Hw2.out.trans (hbw3.mono Hw2.out.size)); clear hbw3
                  clear cE cB hz hzl cl hzm

                  go_wp2
                  try simp only [Int.natCast_add, Int.cast_ofNat_Int]
                  go_roundw
                  case rel => exact ⟨i + 1, i, true, by omega, rfl, rfl, by go_num, Lib.hid (best_take HBst.out hlt HC.out (fun h => absurd h (by decide))), Hw3⟩
                  case measure => simp [intOf]; omega
                case true =>
                  obtain ⟨b3, C3, IB3⟩ : ∃ b3 : Bool, Hid (∀ w : World, Calls Try.prog 58 #[.int .u64 (E b : Int), .int .u64 (E i : Int)] w fun e w' => e = .returned (.bool b3) ∧ w = w') ∧ Hid (b3 = true ↔ kD (E i) < kD (E b)) :=
                    ⟨_, Lib.hid (fun w => aboveD_any (E b) (E i) (hE.out b HBst.out.le).1 (hE.out i hlt).1 w), Lib.hid (by rw [aboveD_eq (hE.out b HBst.out.le).1 (hE.out i hlt).1, (hE.out b HBst.out.le).2, (hE.out i hlt).2]; simp)⟩
                  cases b3
                  case true =>
                    obtain ⟨-, ce, hz⟩ := KE.out wr (HW.out.trans (HQ.out.mono hw3))
                    have cE := ce i hlt
                    have hzl : w.heap.size + 1 + 1 < wr.heap.size := by omega
                    have cB := ce b HBst.out.le
                    clear ce
                    have cl := (HQ.out.cell (p := ⟨lb, lo + m, none⟩) hlb).trans CL.out
                    have hzm : lb < wr.heap.size := Nat.lt_of_lt_of_le hlb HQ.out.size
                    go_wp2_with fail
                    refine region_quiet (by kernel_rfl) (by kernel_rfl) ?_
                    repeat (go_big_quiet_step (first | (with_reducible exact qcall_same (C1.out _)) | (with_reducible exact qcall_same (C2.out _))))
                    refine wpQuiet_nil ?_
                    intro w2 hbw2
                    have Hw2 := Lib.hid (HQ.out.trans (hbw2.mono HQ.out.size)); clear hbw2
                    clear cE cB hz hzl cl hzm

                    obtain ⟨-, ce, hz⟩ := KE.out w2 (HW.out.trans (Hw2.out.mono hw3))
                    have cE := ce i hlt
                    have hzl : w.heap.size + 1 + 1 < w2.heap.size := by omega
                    have cB := ce b HBst.out.le
                    clear ce
                    have cl := (Hw2.out.cell (p := ⟨lb, lo + m, none⟩) hlb).trans CL.out
                    have hzm : lb < w2.heap.size := Nat.lt_of_lt_of_le hlb Hw2.out.size
                    go_wp2_with fail
                    refine region_quiet (by kernel_rfl) (by kernel_rfl) ?_
                    repeat (go_big_quiet_step (first | (with_reducible exact qcall_same (C3.out _))))
                    refine wpQuiet_nil ?_
                    intro w3 hbw3
                    have Hw3 := Lib.hid (Hw2.out.trans (hbw3.mono Hw2.out.size)); clear hbw3
                    clear cE cB hz hzl cl hzm

                    go_wp2
                    try simp only [Int.natCast_add, Int.cast_ofNat_Int]
                    go_roundw
                    case rel => exact ⟨i + 1, i, true, by omega, rfl, rfl, by go_num, Lib.hid (best_take HBst.out hlt HC.out (fun _ => IB3.out.1 (by trivial))), Hw3⟩
                    case measure => simp [intOf]; omega
                  case false =>
                    obtain ⟨-, ce, hz⟩ := KE.out wr (HW.out.trans (HQ.out.mono hw3))
                    have cE := ce i hlt
                    have hzl : w.heap.size + 1 + 1 < wr.heap.size := by omega
                    have cB := ce b HBst.out.le
                    clear ce
                    have cl := (HQ.out.cell (p := ⟨lb, lo + m, none⟩) hlb).trans CL.out
                    have hzm : lb < wr.heap.size := Nat.lt_of_lt_of_le hlb HQ.out.size
                    go_wp2_with fail
                    refine region_quiet (by kernel_rfl) (by kernel_rfl) ?_
                    repeat (go_big_quiet_step (first | (with_reducible exact qcall_same (C1.out _)) | (with_reducible exact qcall_same (C2.out _))))
                    refine wpQuiet_nil ?_
                    intro w2 hbw2
                    have Hw2 := Lib.hid (HQ.out.trans (hbw2.mono HQ.out.size)); clear hbw2
                    clear cE cB hz hzl cl hzm

                    obtain ⟨-, ce, hz⟩ := KE.out w2 (HW.out.trans (Hw2.out.mono hw3))
                    have cE := ce i hlt
                    have hzl : w.heap.size + 1 + 1 < w2.heap.size := by omega
                    have cB := ce b HBst.out.le
                    clear ce
                    have cl := (Hw2.out.cell (p := ⟨lb, lo + m, none⟩) hlb).trans CL.out
                    have hzm : lb < w2.heap.size := Nat.lt_of_lt_of_le hlb Hw2.out.size
                    go_wp2_with fail
                    refine region_quiet (by kernel_rfl) (by kernel_rfl) ?_
                    repeat (go_big_quiet_step (first | (with_reducible exact qcall_same (C3.out _))))
                    refine wpQuiet_nil ?_
                    intro w3 hbw3
                    have Hw3 := Lib.hid (Hw2.out.trans (hbw3.mono Hw2.out.size)); clear hbw3
                    clear cE cB hz hzl cl hzm

                    go_wp2
                    try simp only [Int.natCast_add, Int.cast_ofNat_Int]
                    go_roundw
                    case rel => exact ⟨i + 1, b, true, by omega, rfl, rfl, by go_num, Lib.hid (best_keep HBst.out (fun h => absurd (IB3.out.2 h) (by decide))), Hw3⟩
                    case measure => simp [intOf]; omega
        · have hi : i = 4 := by omega
          subst hi
          cases fd
          case false =>
            go_wp2
            go_ret
            exact ⟨A, n, cap, f, rfl, RowN.of_own (own_below HL.out.1 HQ.out), cuts_none HL.out.2.1 HBst.out, (KE.out wr (HW.out.trans (HQ.out.mono hw3))).1⟩
          case true =>
            obtain ⟨-, ce, hz⟩ := KE.out wr (HW.out.trans (HQ.out.mono hw3))
            have cB := ce b HBst.out.le
            clear ce
            have hbl' : (b : Int) < 4 := by have := HBst.out.le; omega
            have HO := Lib.hid (own_below HL.out.1 HQ.out)
            go_wp2_with (at_builtin; (refine wpList_append_own _ rfl _ _ 195 rfl (w.heap.size + 3) 25 i0 _ 1 8 Try.underlying195 hi hz0 hz1 hz2 rfl (by decide) _ n _ rfl (HO.out.alloc _) ⟨wr.heap.size, 0, none⟩ 1 1 [.int .u64 (E b : Int)] rfl rfl ?c1 ?c2 ?c3 ?c4 ?c5 ?_))
            case c1 => exact new_cells wr [.int .u64 (E b : Int)] _
            case c2 => intro u hu; simp at hu; subst hu; rfl
            case c3 => unfold maxLen; omega
            case c4 => omega
            case c5 => simp; omega
            intro v' w2 hown2 hgrow _
            have hrel2 : Hid (w2.ownsRow (w.heap.size + 3) 25 1 v' (n + 1) (flatN (n + 1) 1 (fC (putN n f (E b)))) ∧ CutsI E (n + 1) (putN n f (E b)) ∧ Below (w.heap.size + 3) W0 w2) := Lib.hid ⟨by
              rw [flatN_succ]
              have e1 : flatN n 1 (fC (putN n f (E b))) = flatN n 1 (fC f) := flatN_congr (fun i hi j _ => by unfold fC; rw [putN_lt hi])
              have e2 : (List.range 1).map (fC (putN n f (E b)) n) = [.int .u64 (E b : Int)] := by simp [fC, putN_at]
              rw [e1, e2]; exact hown2, cuts_step HL.out.2.1 hlt4 HBst.out inj.out,
              ((HW.out.trans (HQ.out.mono hw3)).alloc hz _).grown hgrow (by simp; omega) fun g hg => own_block HO.out hg⟩
            clear hown2 hgrow
            obtain ⟨A', cap', rfl⟩ := own_form hrel2.out.1
            go_wp2
            go_roundw
            case rel => exact ⟨n + 1, putN n f (E b), hrel2, by omega, A', cap', rfl⟩
            case measure => simp; omega

end Go.Proofs.Ytamaeggkpdgaiaa
