/- The walks of the two checks of a program. -/
import Derived.Test.YtamaeggkpdgaiaaWs
namespace Go.Proofs.Ytamaeggkpdgaiaa
open Go.RowKit

set_option maxRecDepth 100000 in
set_option maxHeartbeats 4000000 in
theorem check_any (vars : Int) (A1 A2 : Option Addr) (n cp1 m cp2 : Nat) (L : Nat → Nat × Nat) (C : Nat → Nat → Int) (w : World) (hL : ∀ i < n, W64 (L i).1 ∧ W64 (L i).2) (hn : n * 16 ≤ 140737488351232) (hm : m * 40 ≤ 140737488351232)
    (hr : RowN w w.heap.size 2 A1 n (fF L)) (hr2 : RowN w w.heap.size 5 A2 m (fI C)) :
    Calls Try.prog 26 #[.agg #[.int .i64 vars, .slice A1 n cp1, .slice A2 m cp2]] w
      fun e w' => (∃ l c, ChkP vars n m L C l c ∧ e = .returned (.tuple #[.int .i64 l, .int .i64 c])) ∧ Below w.heap.size w w' := by
  have HR := Lib.hid hr; have HR2 := Lib.hid hr2; have HL := Lib.hid hL
  clear hr hr2 hL
  have HB0 : Hid (Below w.heap.size w (w.alloc (.cells #[.int .i64 vars, .slice A1 n cp1, .slice A2 m cp2] 67))) := Lib.hid (by repeat (first | exact Below.refl _ _ | (refine Below.alloc ?_ (by first | exact Nat.le_refl _ | omega | (simp; done) | (simp; omega)) _)))
  cases hv1 : decide (vars < 0)
  case true =>
    go_enter Try.func26, Try.ntmps26
    go_wp2
    go_ret2
    exact ⟨⟨_, _, .vars (Or.inl (of_decide_eq_true hv1)), rfl⟩, HB0.out⟩
  case false =>
  cases hv2 : decide (32 < vars)
  case true =>
    go_enter Try.func26, Try.ntmps26
    go_wp2
    go_ret2
    exact ⟨⟨_, _, .vars (Or.inr (of_decide_eq_true hv2)), rfl⟩, HB0.out⟩
  case false =>
  have hV1 : 0 ≤ vars := by have := of_decide_eq_false hv1; omega
  have hV2 : vars ≤ 32 := by have := of_decide_eq_false hv2; omega
  cases hn1 : decide (256 < (n : Int))
  case true =>
    go_enter Try.func26, Try.ntmps26
    go_wp2
    go_ret2
    exact ⟨⟨_, _, .many hV1 hV2 (by have := of_decide_eq_true hn1; omega), rfl⟩, HB0.out⟩
  case false =>
  have hN : n ≤ 256 := by have := of_decide_eq_false hn1; omega
  go_enter Try.func26, Try.ntmps26
  go_wp2
  go_loopw [24] (fun v wr => ∃ k : Nat, k ≤ n ∧ v = .int .i64 k ∧ Below (w.heap.size + 1) (w.alloc (.cells #[.int .i64 vars, .slice A1 n cp1, .slice A2 m cp2] 67)) wr ∧ (∀ i < k, validD (L i).1 (L i).2 = true)) (fun v _ => n - (intOf v).toNat)
  case atStart => exact ⟨0, Nat.zero_le _, rfl, Below.refl _ _, fun i hi => by omega⟩
  case round =>
    obtain ⟨k, hk, rfl, hbel, hall⟩ := hrel
    have HA := Lib.hid hall; clear hall
    have hsz := hbel.size
    simp at hsz
    have HBel := Lib.hid hbel
    have cl : ∀ bb oo, bb < w.heap.size + 1 → wr.cell? ⟨bb, oo, none⟩ = (w.alloc (.cells #[.int .i64 vars, .slice A1 n cp1, .slice A2 m cp2] 67)).cell? ⟨bb, oo, none⟩ := fun bb oo hh => hbel.cell (p := ⟨bb, oo, none⟩) hh
    have v0 : wr.cell? ⟨w.heap.size, 0, none⟩ = some (.int .i64 vars) := by rw [cl _ _ (by omega)]; simp [go_sem]
    have v1 : wr.cell? ⟨w.heap.size, 1, none⟩ = some (.slice A1 n cp1) := by rw [cl _ _ (by omega)]; simp [go_sem]
    have v2 : wr.cell? ⟨w.heap.size, 2, none⟩ = some (.slice A2 m cp2) := by rw [cl _ _ (by omega)]; simp [go_sem]
    have hz0 : w.heap.size < wr.heap.size := by omega
    clear cl
    by_cases hlt : k < n
    · obtain ⟨b, off, rfl, hbB, hcell⟩ := HR.out (by omega)
      have hwl : Below w.heap.size w wr := HB0.out.trans (hbel.mono (by omega))
      have c0 : wr.cell? ⟨b, off + k * 2, none⟩ = some (fF L k 0) := by rw [hwl.cell (p := ⟨b, _, none⟩) hbB]; exact hcell k hlt 0 (by omega)
      have c1 : wr.cell? ⟨b, off + k * 2 + 1, none⟩ = some (fF L k 1) := by rw [hwl.cell (p := ⟨b, _, none⟩) hbB]; exact hcell k hlt 1 (by omega)
      simp only [fF, if_true, if_neg (show ¬ (1 : Nat) = 0 by omega)] at c0 c1
      obtain ⟨h1, h2⟩ := HL.out k hlt
      have H1 := Lib.hid h1; have H2 := Lib.hid h2
      clear hcell hbel hwl h1 h2
      cases hval : validD (L k).1 (L k).2
      case false =>
        have HV := Lib.hid hval; clear hval
        go_wp2_with (go_at_call 62; refine (validI_any _ _ H1.out H2.out _).mono ?_; rintro e w1 ⟨rfl, hb⟩; obtain ⟨hc, hf⟩ := bcell hb; (try rw [HV.out]))
        go_ret2
        exact ⟨⟨_, _, .const k hV1 hV2 hN hlt HV.out, rfl⟩, HB0.out.trans ((HBel.out.mono (by omega)).trans (below_then (w := wr) (by repeat (first | exact Below.refl _ _ | (refine Below.alloc ?_ (by first | exact Nat.le_refl _ | omega | (simp; done) | (simp; omega)) _))) hb |>.mono (by omega)))⟩
      case true =>
        have HV := Lib.hid hval; clear hval
        go_wp2_with (go_at_call 62; refine (validI_any _ _ H1.out H2.out _).mono ?_; rintro e w1 ⟨rfl, hb⟩; obtain ⟨hc, hf⟩ := bcell hb; (try rw [HV.out]))
        go_roundw
        case rel => exact ⟨k + 1, by omega, by go_num, HBel.out.trans (below_then (w := wr) (by repeat (first | exact Below.refl _ _ | (refine Below.alloc ?_ (by first | exact Nat.le_refl _ | omega | (simp; done) | (simp; omega)) _))) hb |>.mono (by omega)), fun i hi => by rcases Nat.lt_or_eq_of_le (Nat.lt_succ_iff.1 hi) with h | h; exact HA.out i h; subst h; exact HV.out⟩
        case measure => simp [intOf]; omega
    · have hkn : n = k := by omega
      subst hkn
      have HBW := Lib.hid (HB0.out.trans (hbel.mono (by omega)))
      clear hbel
      cases hm0 : ((m : Int) == 0)
      case true =>
        go_wp2
        go_ret2
        exact ⟨⟨_, _, .code hV1 hV2 hN HA.out (Or.inl (by simp at hm0; omega)), rfl⟩, HBW.out⟩
      case false =>
      cases hm1 : decide (1024 < (m : Int))
      case true =>
        go_wp2
        go_ret2
        exact ⟨⟨_, _, .code hV1 hV2 hN HA.out (Or.inr (by have := of_decide_eq_true hm1; omega)), rfl⟩, HBW.out⟩
      case false =>
      have hM0 : 0 < m := by simp at hm0; omega
      have hM : m ≤ 1024 := by have := of_decide_eq_false hm1; omega
      clear hlt
      go_wp2
      go_loopw [45] (fun v wr => ∃ k : Nat, k ≤ m ∧ v = .int .i64 k ∧ Below (w.heap.size + 1) (w.alloc (.cells #[.int .i64 vars, .slice A1 n cp1, .slice A2 m cp2] 67)) wr ∧ (∀ i < k, lineC vars n C i = 0)) (fun v _ => m - (intOf v).toNat)
      case atStart => exact ⟨0, Nat.zero_le _, rfl, HBel.out, fun i hi => by omega⟩
      case round =>
        clear v0 v1 v2 hsz hz0
        obtain ⟨k, hk, rfl, hbel, hall⟩ := hrel
        have HA2 := Lib.hid hall; clear hall
        have hsz := hbel.size
        simp at hsz
        have HBel2 := Lib.hid hbel
        have cl : ∀ bb oo, bb < w.heap.size + 1 → wr.cell? ⟨bb, oo, none⟩ = (w.alloc (.cells #[.int .i64 vars, .slice A1 n cp1, .slice A2 m cp2] 67)).cell? ⟨bb, oo, none⟩ := fun bb oo hh => hbel.cell (p := ⟨bb, oo, none⟩) hh
        have v0 : wr.cell? ⟨w.heap.size, 0, none⟩ = some (.int .i64 vars) := by rw [cl _ _ (by omega)]; simp [go_sem]
        have v1 : wr.cell? ⟨w.heap.size, 1, none⟩ = some (.slice A1 n cp1) := by rw [cl _ _ (by omega)]; simp [go_sem]
        have v2 : wr.cell? ⟨w.heap.size, 2, none⟩ = some (.slice A2 m cp2) := by rw [cl _ _ (by omega)]; simp [go_sem]
        have hz0 : w.heap.size < wr.heap.size := by omega
        have hle0 : w.heap.size ≤ wr.heap.size := by omega
        clear cl
        have hwl : Below w.heap.size w wr := HB0.out.trans (hbel.mono (by omega))
        have HWL := Lib.hid hwl
        by_cases hlt : k < m
        · obtain ⟨b, off, rfl, hbB, hcell⟩ := HR2.out (by omega)
          have d : ∀ j, j < 5 → wr.cell? ⟨b, off + k * 5 + j, none⟩ = some (.int .i64 (C k j)) := fun j hj => by rw [hwl.cell (p := ⟨b, _, none⟩) hbB]; exact hcell k hlt j hj
          have d0 := d 0 (by omega); have d1 := d 1 (by omega); have d2 := d 2 (by omega); have d3 := d 3 (by omega); have d4 := d 4 (by omega)
          rw [Nat.add_zero] at d0
          clear d hcell
          clear hbel hwl
          cases hl : (lineE vars n k (C k 0) (C k 1) (C k 2) (C k 3) (C k 4) != 0)
          case true =>
            go_wp2_with (go_at_call 63; refine (checkLine_any vars _ _ n cp1 m cp2 k _ _ _ _ _ hV1 hV2 (by omega) (by omega) _).mono ?_; rintro e w1 ⟨rfl, hb⟩; obtain ⟨hc, hf⟩ := bcell hb)
            go_ret2
            exact ⟨⟨_, _, .line k _ hV1 hV2 hN HA.out hM0 hM hlt HA2.out rfl (by simpa [lineC] using hl), rfl⟩, HB0.out.trans ((HBel2.out.mono (by omega)).trans (below_then (w := wr) (by repeat (first | exact Below.refl _ _ | (refine Below.alloc ?_ (by first | exact Nat.le_refl _ | omega | (simp; done) | (simp; omega)) _))) hb |>.mono (by omega)))⟩
          case false =>
            go_wp2_with (go_at_call 63; refine (checkLine_any vars _ _ n cp1 m cp2 k _ _ _ _ _ hV1 hV2 (by omega) (by omega) _).mono ?_; rintro e w1 ⟨rfl, hb⟩; obtain ⟨hc, hf⟩ := bcell hb)
            go_roundw
            case rel => exact ⟨k + 1, by omega, by go_num, HBel2.out.trans (below_then (w := wr) (by repeat (first | exact Below.refl _ _ | (refine Below.alloc ?_ (by first | exact Nat.le_refl _ | omega | (simp; done) | (simp; omega)) _))) hb |>.mono (by omega)), fun i hi => by rcases Nat.lt_or_eq_of_le (Nat.lt_succ_iff.1 hi) with h | h; exact HA2.out i h; subst h; simpa [lineC] using hl⟩
            case measure => simp [intOf]; omega
        · have hkn : m = k := by omega
          subst hkn
          clear hbel
          go_wp2
          go_ret2
          exact ⟨⟨_, _, .ok hV1 hV2 hN HA.out hM0 hM HA2.out, rfl⟩, hwl⟩

set_option maxRecDepth 100000 in
set_option maxHeartbeats 4000000 in
theorem check16_any (vars : Int) (A1 A2 : Option Addr) (n cp1 m cp2 : Nat) (L : Nat → Nat × Nat) (C : Nat → Nat → Int) (w : World) (hL : ∀ i < n, W64 (L i).1 ∧ W64 (L i).2) (hn : n * 16 ≤ 140737488351232) (hm : m * 40 ≤ 140737488351232)
    (hr : RowN w w.heap.size 2 A1 n (fU L)) (hr2 : RowN w w.heap.size 5 A2 m (fI C)) :
    Calls Try.prog 28 #[.agg #[.int .i64 vars, .slice A1 n cp1, .slice A2 m cp2]] w
      fun e w' => (∃ l c, ChkP vars n m L C l c ∧ e = .returned (.tuple #[.int .i64 l, .int .i64 c])) ∧ Below w.heap.size w w' := by
  have HR := Lib.hid hr; have HR2 := Lib.hid hr2; have HL := Lib.hid hL
  clear hr hr2 hL
  have HB0 : Hid (Below w.heap.size w (w.alloc (.cells #[.int .i64 vars, .slice A1 n cp1, .slice A2 m cp2] 60))) := Lib.hid (by repeat (first | exact Below.refl _ _ | (refine Below.alloc ?_ (by first | exact Nat.le_refl _ | omega | (simp; done) | (simp; omega)) _)))
  cases hv1 : decide (vars < 0)
  case true =>
    go_enter Try.func28, Try.ntmps28
    go_wp2
    go_ret2
    exact ⟨⟨_, _, .vars (Or.inl (of_decide_eq_true hv1)), rfl⟩, HB0.out⟩
  case false =>
  cases hv2 : decide (32 < vars)
  case true =>
    go_enter Try.func28, Try.ntmps28
    go_wp2
    go_ret2
    exact ⟨⟨_, _, .vars (Or.inr (of_decide_eq_true hv2)), rfl⟩, HB0.out⟩
  case false =>
  have hV1 : 0 ≤ vars := by have := of_decide_eq_false hv1; omega
  have hV2 : vars ≤ 32 := by have := of_decide_eq_false hv2; omega
  cases hn1 : decide (256 < (n : Int))
  case true =>
    go_enter Try.func28, Try.ntmps28
    go_wp2
    go_ret2
    exact ⟨⟨_, _, .many hV1 hV2 (by have := of_decide_eq_true hn1; omega), rfl⟩, HB0.out⟩
  case false =>
  have hN : n ≤ 256 := by have := of_decide_eq_false hn1; omega
  go_enter Try.func28, Try.ntmps28
  go_wp2
  go_loopw [4] (fun v wr => ∃ k : Nat, k ≤ n ∧ v = .int .i64 k ∧ Below (w.heap.size + 1) (w.alloc (.cells #[.int .i64 vars, .slice A1 n cp1, .slice A2 m cp2] 60)) wr ∧ (∀ i < k, validD (L i).1 (L i).2 = true)) (fun v _ => n - (intOf v).toNat)
  case atStart => exact ⟨0, Nat.zero_le _, rfl, Below.refl _ _, fun i hi => by omega⟩
  case round =>
    obtain ⟨k, hk, rfl, hbel, hall⟩ := hrel
    have HA := Lib.hid hall; clear hall
    have hsz := hbel.size
    simp at hsz
    have HBel := Lib.hid hbel
    have cl : ∀ bb oo, bb < w.heap.size + 1 → wr.cell? ⟨bb, oo, none⟩ = (w.alloc (.cells #[.int .i64 vars, .slice A1 n cp1, .slice A2 m cp2] 60)).cell? ⟨bb, oo, none⟩ := fun bb oo hh => hbel.cell (p := ⟨bb, oo, none⟩) hh
    have v0 : wr.cell? ⟨w.heap.size, 0, none⟩ = some (.int .i64 vars) := by rw [cl _ _ (by omega)]; simp [go_sem]
    have v1 : wr.cell? ⟨w.heap.size, 1, none⟩ = some (.slice A1 n cp1) := by rw [cl _ _ (by omega)]; simp [go_sem]
    have v2 : wr.cell? ⟨w.heap.size, 2, none⟩ = some (.slice A2 m cp2) := by rw [cl _ _ (by omega)]; simp [go_sem]
    have hz0 : w.heap.size < wr.heap.size := by omega
    clear cl
    by_cases hlt : k < n
    · obtain ⟨b, off, rfl, hbB, hcell⟩ := HR.out (by omega)
      have hwl : Below w.heap.size w wr := HB0.out.trans (hbel.mono (by omega))
      have c0 : wr.cell? ⟨b, off + k * 2, none⟩ = some (fU L k 0) := by rw [hwl.cell (p := ⟨b, _, none⟩) hbB]; exact hcell k hlt 0 (by omega)
      have c1 : wr.cell? ⟨b, off + k * 2 + 1, none⟩ = some (fU L k 1) := by rw [hwl.cell (p := ⟨b, _, none⟩) hbB]; exact hcell k hlt 1 (by omega)
      simp only [fU, if_true, if_neg (show ¬ (1 : Nat) = 0 by omega)] at c0 c1
      obtain ⟨h1, h2⟩ := HL.out k hlt
      have H1 := Lib.hid h1; have H2 := Lib.hid h2
      clear hcell hbel hwl h1 h2
      cases hval : validD (L k).1 (L k).2
      case false =>
        have HV := Lib.hid hval; clear hval
        go_wp2_with (go_at_call 65; refine (validD_any _ _ H1.out H2.out _).mono ?_; rintro e w1 ⟨rfl, hb⟩; obtain ⟨hc, hf⟩ := bcell hb; (try rw [HV.out]))
        go_ret2
        exact ⟨⟨_, _, .const k hV1 hV2 hN hlt HV.out, rfl⟩, HB0.out.trans ((HBel.out.mono (by omega)).trans (below_then (w := wr) (by repeat (first | exact Below.refl _ _ | (refine Below.alloc ?_ (by first | exact Nat.le_refl _ | omega | (simp; done) | (simp; omega)) _))) hb |>.mono (by omega)))⟩
      case true =>
        have HV := Lib.hid hval; clear hval
        go_wp2_with (go_at_call 65; refine (validD_any _ _ H1.out H2.out _).mono ?_; rintro e w1 ⟨rfl, hb⟩; obtain ⟨hc, hf⟩ := bcell hb; (try rw [HV.out]))
        go_roundw
        case rel => exact ⟨k + 1, by omega, by go_num, HBel.out.trans (below_then (w := wr) (by repeat (first | exact Below.refl _ _ | (refine Below.alloc ?_ (by first | exact Nat.le_refl _ | omega | (simp; done) | (simp; omega)) _))) hb |>.mono (by omega)), fun i hi => by rcases Nat.lt_or_eq_of_le (Nat.lt_succ_iff.1 hi) with h | h; exact HA.out i h; subst h; exact HV.out⟩
        case measure => simp [intOf]; omega
    · have hkn : n = k := by omega
      subst hkn
      have HBW := Lib.hid (HB0.out.trans (hbel.mono (by omega)))
      clear hbel
      cases hm0 : ((m : Int) == 0)
      case true =>
        go_wp2
        go_ret2
        exact ⟨⟨_, _, .code hV1 hV2 hN HA.out (Or.inl (by simp at hm0; omega)), rfl⟩, HBW.out⟩
      case false =>
      cases hm1 : decide (1024 < (m : Int))
      case true =>
        go_wp2
        go_ret2
        exact ⟨⟨_, _, .code hV1 hV2 hN HA.out (Or.inr (by have := of_decide_eq_true hm1; omega)), rfl⟩, HBW.out⟩
      case false =>
      have hM0 : 0 < m := by simp at hm0; omega
      have hM : m ≤ 1024 := by have := of_decide_eq_false hm1; omega
      clear hlt
      go_wp2
      go_loopw [5] (fun v wr => ∃ k : Nat, k ≤ m ∧ v = .int .i64 k ∧ Below (w.heap.size + 1) (w.alloc (.cells #[.int .i64 vars, .slice A1 n cp1, .slice A2 m cp2] 60)) wr ∧ (∀ i < k, lineC vars n C i = 0)) (fun v _ => m - (intOf v).toNat)
      case atStart => exact ⟨0, Nat.zero_le _, rfl, HBel.out, fun i hi => by omega⟩
      case round =>
        clear v0 v1 v2 hsz hz0
        obtain ⟨k, hk, rfl, hbel, hall⟩ := hrel
        have HA2 := Lib.hid hall; clear hall
        have hsz := hbel.size
        simp at hsz
        have HBel2 := Lib.hid hbel
        have cl : ∀ bb oo, bb < w.heap.size + 1 → wr.cell? ⟨bb, oo, none⟩ = (w.alloc (.cells #[.int .i64 vars, .slice A1 n cp1, .slice A2 m cp2] 60)).cell? ⟨bb, oo, none⟩ := fun bb oo hh => hbel.cell (p := ⟨bb, oo, none⟩) hh
        have v0 : wr.cell? ⟨w.heap.size, 0, none⟩ = some (.int .i64 vars) := by rw [cl _ _ (by omega)]; simp [go_sem]
        have v1 : wr.cell? ⟨w.heap.size, 1, none⟩ = some (.slice A1 n cp1) := by rw [cl _ _ (by omega)]; simp [go_sem]
        have v2 : wr.cell? ⟨w.heap.size, 2, none⟩ = some (.slice A2 m cp2) := by rw [cl _ _ (by omega)]; simp [go_sem]
        have hz0 : w.heap.size < wr.heap.size := by omega
        have hle0 : w.heap.size ≤ wr.heap.size := by omega
        clear cl
        have hwl : Below w.heap.size w wr := HB0.out.trans (hbel.mono (by omega))
        have HWL := Lib.hid hwl
        by_cases hlt : k < m
        · skip
          clear hbel hwl
          cases hl : (lineE vars n k (C k 0) (C k 1) (C k 2) (C k 3) (C k 4) != 0)
          case true =>
            go_wp2_with (go_at_call 66; refine (line16_any vars _ _ n cp1 m cp2 C k hV1 hV2 (by omega) hlt _ ((HR2.out.below HWL.out).more hle0)).mono ?_; rintro e w1 ⟨rfl, hb⟩; obtain ⟨hc, hf⟩ := bcell hb)
            go_ret2
            exact ⟨⟨_, _, .line k _ hV1 hV2 hN HA.out hM0 hM hlt HA2.out rfl (by simpa [lineC] using hl), rfl⟩, HB0.out.trans ((HBel2.out.mono (by omega)).trans (below_then (w := wr) (by repeat (first | exact Below.refl _ _ | (refine Below.alloc ?_ (by first | exact Nat.le_refl _ | omega | (simp; done) | (simp; omega)) _))) hb |>.mono (by omega)))⟩
          case false =>
            go_wp2_with (go_at_call 66; refine (line16_any vars _ _ n cp1 m cp2 C k hV1 hV2 (by omega) hlt _ ((HR2.out.below HWL.out).more hle0)).mono ?_; rintro e w1 ⟨rfl, hb⟩; obtain ⟨hc, hf⟩ := bcell hb)
            go_roundw
            case rel => exact ⟨k + 1, by omega, by go_num, HBel2.out.trans (below_then (w := wr) (by repeat (first | exact Below.refl _ _ | (refine Below.alloc ?_ (by first | exact Nat.le_refl _ | omega | (simp; done) | (simp; omega)) _))) hb |>.mono (by omega)), fun i hi => by rcases Nat.lt_or_eq_of_le (Nat.lt_succ_iff.1 hi) with h | h; exact HA2.out i h; subst h; simpa [lineC] using hl⟩
            case measure => simp [intOf]; omega
        · have hkn : m = k := by omega
          subst hkn
          clear hbel
          go_wp2
          go_ret2
          exact ⟨⟨_, _, .ok hV1 hV2 hN HA.out hM0 hM HA2.out, rfl⟩, hwl⟩

end Go.Proofs.Ytamaeggkpdgaiaa
