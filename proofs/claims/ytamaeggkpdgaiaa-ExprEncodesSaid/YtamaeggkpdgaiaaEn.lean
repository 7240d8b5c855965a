/- The walks of vergeref16.Same and Equal, of equal ones. -/
import Derived.Test.YtamaeggkpdgaiaaEm
import Derived.BigQuiet
import Derived.Test.YtamaeggkpdgaiaaEb
namespace Go.Proofs.Ytamaeggkpdgaiaa
open Go.RowKit

set_option maxRecDepth 100000 in
set_option maxHeartbeats 1000000 in
theorem same16_any (A B : Option Addr) (n c1 c2 : Nat) (L : Nat → Nat × Nat) (w : World) (hn : n ≤ 256) (hr : RowN w w.heap.size 2 A n (fU L)) (hr2 : RowN w w.heap.size 2 B n (fU L)) :
    Calls Try.prog 83 #[.slice A n c1, .slice B n c2] w fun e w' => e = .returned (.bool true) ∧ Below w.heap.size w w' := by
  have HR := Lib.hid hr; have HR2 := Lib.hid hr2
  clear hr hr2
  go_enter Try.func83, Try.ntmps83
  go_wp2
  go_loopw [5] (fun iv wr => ∃ k : Nat, k ≤ n ∧ iv = .int .i64 (k : Int) ∧ Hid (Below w.heap.size w wr)) (fun iv _ => n - (intOf iv).toNat)
  case atStart => exact ⟨0, by omega, rfl, Lib.hid (Below.refl _ _)⟩
  case round =>
    obtain ⟨k, hk, rfl, H⟩ := hrel
    by_cases hlt : k < n
    · have hlt' : (k : Int) < (n : Int) := by omega
      obtain ⟨b, off, rfl, hbB, hc⟩ := HR.out (by omega)
      obtain ⟨b2, off2, rfl, hbB2, hc2⟩ := HR2.out (by omega)
      have r0 := (H.out.cell (p := ⟨b, off + k * 2 + 0, none⟩) hbB).trans (hc k hlt 0 (by omega))
      have r1 := (H.out.cell (p := ⟨b, off + k * 2 + 1, none⟩) hbB).trans (hc k hlt 1 (by omega))
      have s0 := (H.out.cell (p := ⟨b2, off2 + k * 2 + 0, none⟩) hbB2).trans (hc2 k hlt 0 (by omega))
      have s1 := (H.out.cell (p := ⟨b2, off2 + k * 2 + 1, none⟩) hbB2).trans (hc2 k hlt 1 (by omega))
      simp only [fU, if_true, Nat.add_zero, Nat.one_ne_zero, if_false] at r0 r1 s0 s1
      have hs := H.out.size
      have l1 : b < wr.heap.size := by omega
      have l2 : b2 < wr.heap.size := by omega
      clear hc hc2
      go_wp2_with fail
      refine region_quiet (by kernel_rfl) (by kernel_rfl) ?_
      repeat (refine wpQuiet_step (fun K hK => ?_); go_simp; first | (refine hK _ ?_; clear hK K))
      refine wpQuiet_nil ?_
      intro w2 hb2
      have H2 := Lib.hid (H.out.trans (hb2.mono hs))
      clear hb2 r0 r1 s0 s1
      go_wp2
      go_roundw
      case rel => exact ⟨k + 1, by omega, by go_num, H2⟩
      case measure => simp [intOf]; omega
    · have : k = n := by omega
      subst this
      go_wp2
      go_ret
      exact ⟨rfl, H.out⟩

theorem cell_of {w : World} {g : Nat} {cs : Array Value} {T : TypeId} {v : Value} (hh : w.heap[g]? = some (.cells cs T (0, 0))) (o : Nat) (hv : cs[o]? = some v) : w.cell? ⟨g, o, none⟩ = some v := by
  unfold World.cell?; rw [hh]; simpa using hv

set_option maxRecDepth 100000 in
set_option maxHeartbeats 1000000 in
theorem equal16_any (vars : Int) (A1 A2 B1 B2 : Option Addr) (n m c1 c2 d1 d2 : Nat) (L : Nat → Nat × Nat) (C : Nat → Nat → Int) (w : World) (hn : n ≤ 256) (hm : m ≤ 1024) (hr : RowN w w.heap.size 2 A1 n (fU L)) (hr2 : RowN w w.heap.size 2 B1 n (fU L)) (hi : RowN w w.heap.size 5 A2 m (fI C)) (hi2 : RowN w w.heap.size 5 B2 m (fI C)) :
    Calls Try.prog 40 #[.agg #[.int .i64 vars, .slice A1 n c1, .slice A2 m c2], .agg #[.int .i64 vars, .slice B1 n d1, .slice B2 m d2]] w fun e w' => e = .returned (.bool true) ∧ Below w.heap.size w w' := by
  have HI := Lib.hid hi; have HI2 := Lib.hid hi2
  have CS : Hid (∀ w', Below w.heap.size w w' → Calls Try.prog 83 #[.slice A1 n c1, .slice B1 n d1] w' fun e w'' => e = .returned (.bool true) ∧ Below w'.heap.size w' w'') := Lib.hid (fun w' h => same16_any A1 B1 n c1 d1 L w' hn ((hr.below h).more h.size) ((hr2.below h).more h.size))
  clear hr hr2 hi hi2
  obtain ⟨V1, hV1⟩ : ∃ V : World, V = w.alloc (.cells #[.int .i64 vars, .slice A1 n c1, .slice A2 m c2] 60) := ⟨_, rfl⟩
  obtain ⟨V2, hV2⟩ : ∃ V : World, V = V1.alloc (.cells #[.int .i64 vars, .slice B1 n d1, .slice B2 m d2] 60) := ⟨_, rfl⟩
  have s1 : V1.heap.size = w.heap.size + 1 := by rw [hV1]; simp
  have s2 : V2.heap.size = w.heap.size + 2 := by rw [hV2]; simp; omega
  have a1 : V1.heap[w.heap.size]? = some (.cells #[.int .i64 vars, .slice A1 n c1, .slice A2 m c2] 60 (0, 0)) := by rw [hV1]; exact heap_alloc_new w _
  have a2 : V2.heap[w.heap.size]? = some (.cells #[.int .i64 vars, .slice A1 n c1, .slice A2 m c2] 60 (0, 0)) := by rw [hV2]; exact (heap_alloc_old _ _ (by omega)).trans a1
  have b2 : V2.heap[w.heap.size + 1]? = some (.cells #[.int .i64 vars, .slice B1 n d1, .slice B2 m d2] 60 (0, 0)) := by rw [hV2, ← s1]; exact heap_alloc_new V1 _
  have B0 : Hid (Below w.heap.size w V2) := Lib.hid (by rw [hV2, hV1]; exact ((Below.refl _ _).alloc (Nat.le_refl _) _).alloc (by simp) _)
  have HA := Lib.hid a2; have HB := Lib.hid b2; have HS2 := Lib.hid s2
  have KF : Hid (∀ w', Below V2.heap.size V2 w' → (w'.cell? ⟨w.heap.size, 0, none⟩ = some (.int .i64 vars) ∧ w'.cell? ⟨w.heap.size, 1, none⟩ = some (.slice A1 n c1) ∧ w'.cell? ⟨w.heap.size, 2, none⟩ = some (.slice A2 m c2) ∧
      w'.cell? ⟨w.heap.size + 1, 0, none⟩ = some (.int .i64 vars) ∧ w'.cell? ⟨w.heap.size + 1, 1, none⟩ = some (.slice B1 n d1) ∧ w'.cell? ⟨w.heap.size + 1, 2, none⟩ = some (.slice B2 m d2) ∧ w.heap.size + 1 < w'.heap.size ∧ w.heap.size < w'.heap.size)) := Lib.hid (fun w' h => by
    have ha := (h.block w.heap.size (by rw [HS2.out]; omega)).trans HA.out
    have hb := (h.block (w.heap.size + 1) (by rw [HS2.out]; omega)).trans HB.out
    exact ⟨cell_of ha 0 rfl, cell_of ha 1 rfl, cell_of ha 2 rfl, cell_of hb 0 rfl, cell_of hb 1 rfl, cell_of hb 2 rfl, (Array.getElem?_eq_some_iff.1 hb).1, (Array.getElem?_eq_some_iff.1 ha).1⟩)
  obtain ⟨k0, k1, k2, k3, k4, k5, l1, l0⟩ := KF.out V2 (Below.refl _ _)
  clear a1 a2 b2 s1 s2
  go_enter Try.func40, Try.ntmps40
  go_wp2_with fail
  rw [← hV1, ← hV2]
  refine (CS.out _ B0.out).mono ?_
  rintro e1 w1 ⟨rfl, hb1⟩
  have H1 := Lib.hid hb1
  clear hb1 hV1 hV2 k0 k1 k2 k3 k4 k5 l1 l0
  obtain ⟨k0, k1, k2, k3, k4, k5, l1, l0⟩ := KF.out w1 H1.out
  go_wp2
  go_loopw [5] (fun iv wr => ∃ k : Nat, k ≤ m ∧ iv = .int .i64 (k : Int) ∧ Hid (Below V2.heap.size V2 wr)) (fun iv _ => m - (intOf iv).toNat)
  case atStart => exact ⟨0, by omega, rfl, H1⟩
  case round =>
    obtain ⟨k, hk, rfl, H⟩ := hrel
    clear k0 k1 k2 k3 k4 k5 l1 l0
    obtain ⟨k0, k1, k2, k3, k4, k5, l1, l0⟩ := KF.out wr H.out
    by_cases hlt : k < m
    · have hlt' : (k : Int) < (m : Int) := by omega
      obtain ⟨b, off, rfl, hbB, hc⟩ := HI.out (by omega)
      obtain ⟨b2, off2, rfl, hbB2, hc2⟩ := HI2.out (by omega)
      have HBW : Hid (Below w.heap.size w wr) := Lib.hid (B0.out.trans (H.out.mono B0.out.size))
      have r0 := (HBW.out.cell (p := ⟨b, off + k * 5 + 0, none⟩) hbB).trans (hc k hlt 0 (by omega))
      have r1 := (HBW.out.cell (p := ⟨b, off + k * 5 + 1, none⟩) hbB).trans (hc k hlt 1 (by omega))
      have r2 := (HBW.out.cell (p := ⟨b, off + k * 5 + 2, none⟩) hbB).trans (hc k hlt 2 (by omega))
      have r3 := (HBW.out.cell (p := ⟨b, off + k * 5 + 3, none⟩) hbB).trans (hc k hlt 3 (by omega))
      have r4 := (HBW.out.cell (p := ⟨b, off + k * 5 + 4, none⟩) hbB).trans (hc k hlt 4 (by omega))
      have s0 := (HBW.out.cell (p := ⟨b2, off2 + k * 5 + 0, none⟩) hbB2).trans (hc2 k hlt 0 (by omega))
      have s1 := (HBW.out.cell (p := ⟨b2, off2 + k * 5 + 1, none⟩) hbB2).trans (hc2 k hlt 1 (by omega))
      have s2 := (HBW.out.cell (p := ⟨b2, off2 + k * 5 + 2, none⟩) hbB2).trans (hc2 k hlt 2 (by omega))
      have s3 := (HBW.out.cell (p := ⟨b2, off2 + k * 5 + 3, none⟩) hbB2).trans (hc2 k hlt 3 (by omega))
      have s4 := (HBW.out.cell (p := ⟨b2, off2 + k * 5 + 4, none⟩) hbB2).trans (hc2 k hlt 4 (by omega))
      simp only [fI, Nat.add_zero] at r0 r1 r2 r3 r4 s0 s1 s2 s3 s4
      have hs := HBW.out.size
      have m1 : b < wr.heap.size := by omega
      have m2 : b2 < wr.heap.size := by omega
      clear hc hc2
      go_wp2_with fail
      refine region_quiet (by kernel_rfl) (by kernel_rfl) ?_
      repeat (refine wpQuiet_step (fun K hK => ?_); go_simp; first | (refine hK _ ?_; clear hK K))
      refine wpQuiet_nil ?_
      intro w2 hb2
      have H2 := Lib.hid (H.out.trans (hb2.mono H.out.size))
      clear hb2 r0 r1 r2 r3 r4 s0 s1 s2 s3 s4
      go_wp2
      go_roundw
      case rel => exact ⟨k + 1, by omega, by go_num, H2⟩
      case measure => simp [intOf]; omega
    · have hkm : k = m := by omega
      subst hkm
      go_wp2
      go_ret
      exact ⟨rfl, B0.out.trans (H.out.mono B0.out.size)⟩

end Go.Proofs.Ytamaeggkpdgaiaa
