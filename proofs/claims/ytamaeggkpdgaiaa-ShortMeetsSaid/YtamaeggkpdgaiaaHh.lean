/- The walks of vergeref9: has, asked, EachEach. -/
import Derived.Test.YtamaeggkpdgaiaaHg
namespace Go.Proofs.Ytamaeggkpdgaiaa
open Go.RowKit

def hasB (nn : Bool) (lo hi p : Nat) : Bool := !nn && decide (lo ≤ p) && decide (p ≤ hi)
set_option maxRecDepth 100000 in
set_option maxHeartbeats 500000 in
theorem has_any (nn : Bool) (lo hi p : Nat) (w : World) :
    Calls Try.prog 128 #[.agg #[.bool nn, .int .i64 (lo : Int), .int .i64 (hi : Int)], .int .i64 (p : Int)] w fun e w' => e = .returned (.bool (hasB nn lo hi p)) ∧ Below w.heap.size w w' := by
  have HB : Hid (hasB nn lo hi p = (!nn && decide (lo ≤ p) && decide (p ≤ hi))) := Lib.hid rfl
  generalize hasB nn lo hi p = r at *
  cases nn
  case true =>
    go_enter Try.func128, Try.ntmps128
    go_wp2
    go_ret
    exact ⟨ret_bool (by rw [HB.out]; rfl), (by repeat (first | exact Below.refl _ _ | assumption | (refine Below.alloc ?_ (by first | exact Nat.le_refl _ | omega | (simp; done) | (simp; omega)) _) | refine Below.drew ?_ | refine below_drewN ?_ _ | (refine Below.setCell ?_ (by first | exact Nat.le_refl _ | omega | (simp; done) | (simp; omega)) _) | refine below_then ?_ (by assumption)))⟩
  case false =>
    rcases Decidable.em (lo ≤ p) with h1 | h1
    · have t1 : (lo : Int) ≤ (p : Int) := by omega
      rcases Decidable.em (p ≤ hi) with h2 | h2
      · have t2 : (p : Int) ≤ (hi : Int) := by omega
        have H1 := Lib.hid h1; have H2 := Lib.hid h2; clear h1 h2
        go_enter Try.func128, Try.ntmps128
        go_wp2
        go_ret
        exact ⟨ret_bool (by rw [HB.out]; simp [H1.out, H2.out]), (by repeat (first | exact Below.refl _ _ | assumption | (refine Below.alloc ?_ (by first | exact Nat.le_refl _ | omega | (simp; done) | (simp; omega)) _) | refine Below.drew ?_ | refine below_drewN ?_ _ | (refine Below.setCell ?_ (by first | exact Nat.le_refl _ | omega | (simp; done) | (simp; omega)) _) | refine below_then ?_ (by assumption)))⟩
      · have t2 : ¬ (p : Int) ≤ (hi : Int) := by omega
        have H1 := Lib.hid h1; have H2 := Lib.hid h2; clear h1 h2
        go_enter Try.func128, Try.ntmps128
        go_wp2
        go_ret
        exact ⟨ret_bool (by rw [HB.out]; simp [H1.out, H2.out]), (by repeat (first | exact Below.refl _ _ | assumption | (refine Below.alloc ?_ (by first | exact Nat.le_refl _ | omega | (simp; done) | (simp; omega)) _) | refine Below.drew ?_ | refine below_drewN ?_ _ | (refine Below.setCell ?_ (by first | exact Nat.le_refl _ | omega | (simp; done) | (simp; omega)) _) | refine below_then ?_ (by assumption)))⟩
    · have t1 : ¬ (lo : Int) ≤ (p : Int) := by omega
      have H1 := Lib.hid h1; clear h1
      go_enter Try.func128, Try.ntmps128
      go_wp2
      go_ret
      exact ⟨ret_bool (by rw [HB.out]; simp [H1.out]), (by repeat (first | exact Below.refl _ _ | assumption | (refine Below.alloc ?_ (by first | exact Nat.le_refl _ | omega | (simp; done) | (simp; omega)) _) | refine Below.drew ?_ | refine below_drewN ?_ _ | (refine Below.setCell ?_ (by first | exact Nat.le_refl _ | omega | (simp; done) | (simp; omega)) _) | refine below_then ?_ (by assumption)))⟩

theorem asked5_any (a b : Nat) (w : World) :
    Calls Try.prog 129 #[.int .i64 5, .int .i64 (a : Int), .int .i64 (b : Int)] w fun e w' => e = .returned (.bool (decide (a ≠ b))) ∧ w = w' := by
  go_enter Try.func129, Try.ntmps129
  go_wp2
  go_ret
  exact ⟨ret_bool (by rw [Bool.eq_iff_iff]; simp <;> omega), rfl⟩

/-- A call that tells whether. -/
def TellP (P : Prop) (e : Ending) (w w' : World) : Prop := ∃ r : Bool, e = .returned (.bool r) ∧ (r = true ↔ P) ∧ Below w.heap.size w w'
/-- Have two rows no even place in common? -/
def Apart (n1 : Bool) (a b : Nat) (n2 : Bool) (c d n : Nat) : Prop := ∀ p, 1 ≤ p → p < n → p % 2 = 0 → ¬ (hasB n1 a b p = true ∧ hasB n2 c d p = true)

set_option maxRecDepth 100000 in
set_option maxHeartbeats 2000000 in
theorem each5_any (n1 n2 : Bool) (a b c d n : Nat) (hn : n ≤ 1000) (hn1 : 1 ≤ n) (w : World) :
    Calls Try.prog 96 #[.int .i64 5, .agg #[.bool n1, .int .i64 (a : Int), .int .i64 (b : Int)], .agg #[.bool n2, .int .i64 (c : Int), .int .i64 (d : Int)], .int .i64 (n : Int)] w
      fun e w' => TellP (Apart n1 a b n2 c d n) e w w' := by
  have HB0 : Hid (Below w.heap.size w ((w.alloc (.cells #[.bool n1, .int .i64 (a : Int), .int .i64 (b : Int)] 169)).alloc (.cells #[.bool n2, .int .i64 (c : Int), .int .i64 (d : Int)] 169))) := Lib.hid (((Below.refl _ _).alloc (Nat.le_refl _) _).alloc (by simp) _)
  have KB : Hid (∀ w', Below (w.heap.size + 2) ((w.alloc (.cells #[.bool n1, .int .i64 (a : Int), .int .i64 (b : Int)] 169)).alloc (.cells #[.bool n2, .int .i64 (c : Int), .int .i64 (d : Int)] 169)) w' → Below w.heap.size w w') := Lib.hid (fun w' h => HB0.out.trans (h.mono (by omega)))
  have KS : Hid (∀ w', Below (w.heap.size + 2) ((w.alloc (.cells #[.bool n1, .int .i64 (a : Int), .int .i64 (b : Int)] 169)).alloc (.cells #[.bool n2, .int .i64 (c : Int), .int .i64 (d : Int)] 169)) w' →
      (w'.cell? ⟨w.heap.size, 0, none⟩ = some (.bool n1) ∧ w'.cell? ⟨w.heap.size, 1, none⟩ = some (.int .i64 (a : Int)) ∧ w'.cell? ⟨w.heap.size, 2, none⟩ = some (.int .i64 (b : Int)) ∧
       w'.cell? ⟨w.heap.size + 1, 0, none⟩ = some (.bool n2) ∧ w'.cell? ⟨w.heap.size + 1, 1, none⟩ = some (.int .i64 (c : Int)) ∧ w'.cell? ⟨w.heap.size + 1, 2, none⟩ = some (.int .i64 (d : Int)))) :=
    Lib.hid (fun w' h => ⟨(h.cell (p := ⟨w.heap.size, 0, none⟩) (by simp; try omega)).trans (by simp [go_sem]), (h.cell (p := ⟨w.heap.size, 1, none⟩) (by simp; try omega)).trans (by simp [go_sem]), (h.cell (p := ⟨w.heap.size, 2, none⟩) (by simp; try omega)).trans (by simp [go_sem]),
      (h.cell (p := ⟨w.heap.size + 1, 0, none⟩) (by simp; try omega)).trans (by simp [go_sem]), (h.cell (p := ⟨w.heap.size + 1, 1, none⟩) (by simp; try omega)).trans (by simp [go_sem]), (h.cell (p := ⟨w.heap.size + 1, 2, none⟩) (by simp; try omega)).trans (by simp [go_sem])⟩)
  have Z0 : Hid (Below (w.heap.size + 2) ((w.alloc (.cells #[.bool n1, .int .i64 (a : Int), .int .i64 (b : Int)] 169)).alloc (.cells #[.bool n2, .int .i64 (c : Int), .int .i64 (d : Int)] 169)) ((w.alloc (.cells #[.bool n1, .int .i64 (a : Int), .int .i64 (b : Int)] 169)).alloc (.cells #[.bool n2, .int .i64 (c : Int), .int .i64 (d : Int)] 169))) := Lib.hid (Below.refl _ _)
  have Hsz : Hid (∀ w', Below (w.heap.size + 2) ((w.alloc (.cells #[.bool n1, .int .i64 (a : Int), .int .i64 (b : Int)] 169)).alloc (.cells #[.bool n2, .int .i64 (c : Int), .int .i64 (d : Int)] 169)) w' → w.heap.size + 2 ≤ w'.heap.size) := Lib.hid (fun w' h => by have := h.size; simpa using this)
  go_enter Try.func96, Try.ntmps96
  go_wp2
  obtain ⟨W0, hW0⟩ : ∃ W0 : World, W0 = ((w.alloc (.cells #[.bool n1, .int .i64 (a : Int), .int .i64 (b : Int)] 169)).alloc (.cells #[.bool n2, .int .i64 (c : Int), .int .i64 (d : Int)] 169)) := ⟨_, rfl⟩
  rw [← hW0] at KB KS Z0 HB0 Hsz ⊢
  clear hW0
  go_loopw [9] (fun v wr => ∃ p : Nat, 1 ≤ p ∧ p ≤ n ∧ v = .int .i64 (p : Int) ∧ Hid (∀ q, 1 ≤ q → q < p → q % 2 = 0 → ¬ (hasB n1 a b q = true ∧ hasB n2 c d q = true)) ∧ Hid (Below (w.heap.size + 2) W0 wr)) (fun v _ => n - (intOf v).toNat)
  case atStart => exact ⟨1, Nat.le_refl _, hn1, rfl, Lib.hid (fun q h1 h2 => by omega), Z0⟩
  case round =>
    obtain ⟨p, hp1, hpn, rfl, HA, HZ⟩ := hrel
    by_cases hlt : p < n
    · have tl : (p : Int) < (n : Int) := by omega
      go_wp2
      go_loopw [10] (fun v wq => ∃ t : Nat, 1 ≤ t ∧ t ≤ n ∧ v = .int .i64 (t : Int) ∧ Hid (p < t → p % 2 = 0 → ¬ (hasB n1 a b p = true ∧ hasB n2 c d p = true)) ∧ Hid (Below (w.heap.size + 2) W0 wq)) (fun v _ => n - (intOf v).toNat)
      case atStart => exact ⟨1, Nat.le_refl _, hn1, rfl, Lib.hid (fun h => by omega), HZ⟩
      case round =>
        obtain ⟨t, ht1, htn, rfl, HT, HQ⟩ := hrel
        by_cases htl : t < n
        · have tt : (t : Int) < (n : Int) := by omega
          rcases Decidable.em (p % 2 = 0) with he | he
          · have t2 : (p : Int).tmod 2 = 0 := by rw [Int.tmod_eq_emod_of_nonneg (by omega)]; omega
            have HE := Lib.hid he; clear he
            obtain ⟨s0, s1, s2, s3, s4, s5⟩ := KS.out wr HQ.out
            have hs := Hsz.out wr HQ.out
            have C1 := Lib.hid (fun (w : World) => has_any n1 a b p w)
            have C2 := Lib.hid (fun (w : World) => has_any n2 c d t w)
            cases hh1 : hasB n1 a b p
            case false =>
              have HF := Lib.hid hh1
              rw [hh1] at C1
              clear hh1
              go_wp2_with fail
              refine (C1.out _).mono ?_
              rintro e1 w1 ⟨rfl, hb1⟩
              have HQ1 := Lib.hid (HQ.out.trans (hb1.mono hs)); clear hb1
              go_wp2
              go_roundw
              case rel => exact ⟨t + 1, by omega, by omega, by go_num, Lib.hid (fun _ _ h => absurd h.1 (by decide)), HQ1⟩
              case measure => simp [intOf]; omega
            case true =>
              have HF := Lib.hid hh1
              rw [hh1] at C1
              clear hh1
              cases hh2 : hasB n2 c d t
              case false =>
                have HF2 := Lib.hid hh2
                rw [hh2] at C2
                clear hh2
                go_wp2_with fail
                refine (C1.out _).mono ?_
                rintro e1 w1 ⟨rfl, hb1⟩
                have HQ1 := Lib.hid (HQ.out.trans (hb1.mono hs)); clear hb1 s0 s1 s2 s3 s4 s5
                obtain ⟨s0, s1, s2, s3, s4, s5⟩ := KS.out w1 HQ1.out
                have hs1 := Hsz.out w1 HQ1.out
                go_wp2_with fail
                refine (C2.out _).mono ?_
                rintro e2 w2 ⟨rfl, hb2⟩
                have HQ2 := Lib.hid (HQ1.out.trans (hb2.mono hs1)); clear hb2
                go_wp2
                go_roundw
                case rel => exact ⟨t + 1, by omega, by omega, by go_num, Lib.hid (fun h1 h2 h3 => by
                  rcases Nat.lt_or_ge p t with h | h
                  · exact HT.out h h2 ⟨HF.out, h3.2⟩
                  · have : p = t := by omega
                    subst this; have := h3.2; rw [HF2.out] at this; exact absurd this (by decide)), HQ2⟩
                case measure => simp [intOf]; omega
              case true =>
                have HF2 := Lib.hid hh2
                rw [hh2] at C2
                clear hh2
                go_wp2_with fail
                refine (C1.out _).mono ?_
                rintro e1 w1 ⟨rfl, hb1⟩
                have HQ1 := Lib.hid (HQ.out.trans (hb1.mono hs)); clear hb1 s0 s1 s2 s3 s4 s5
                obtain ⟨s0, s1, s2, s3, s4, s5⟩ := KS.out w1 HQ1.out
                have hs1 := Hsz.out w1 HQ1.out
                go_wp2_with fail
                refine (C2.out _).mono ?_
                rintro e2 w2 ⟨rfl, hb2⟩
                have HQ2 := Lib.hid (HQ1.out.trans (hb2.mono hs1)); clear hb2
                go_wp2_with fail
                refine (asked5_any p t _).mono ?_
                rintro e3 w3 ⟨rfl, rfl⟩
                rcases Decidable.em (p = t) with hpt | hpt
                · have HPT := Lib.hid hpt
                  rw [show decide (p ≠ t) = false from by simp [hpt]]
                  clear hpt
                  go_wp2
                  go_ret
                  refine ⟨false, rfl, ⟨fun h => absurd h (by decide), fun h => ?_⟩, KB.out _ HQ2.out⟩
                  exact absurd ⟨HF.out, by rw [HPT.out]; exact HF2.out⟩ (h p hp1 hlt HE.out)
                · have HPT := Lib.hid hpt
                  rw [show decide (p ≠ t) = true from by simp [hpt]]
                  clear hpt
                  go_wp2
                  go_roundw
                  case rel => exact ⟨t + 1, by omega, by omega, by go_num, Lib.hid (fun h1 h2 h3 => by
                    have := HPT.out
                    exact HT.out (by omega) h2 ⟨HF.out, h3.2⟩), HQ2⟩
                  case measure => simp [intOf]; omega
          · have t2 : (p : Int).tmod 2 = 1 := by rw [Int.tmod_eq_emod_of_nonneg (by omega)]; omega
            have HE := Lib.hid he; clear he
            go_wp2
            go_roundw
            case rel => exact ⟨t + 1, by omega, by omega, by go_num, Lib.hid (fun _ h => absurd h HE.out), HQ⟩
            case measure => simp [intOf]; omega
        · have tt : ¬ (t : Int) < (n : Int) := by omega
          go_wp2
          go_roundw
          case rel => exact ⟨p + 1, by omega, by omega, by go_num, Lib.hid (fun q h1 h2 h3 => by
            rcases Nat.lt_or_ge q p with h | h
            · exact HA.out q h1 h h3
            · have : q = p := by omega
              subst this; exact HT.out (by omega) h3), HQ⟩
          case measure => simp [intOf]; omega
    · have tl : ¬ (p : Int) < (n : Int) := by omega
      go_wp2
      go_ret
      exact ⟨true, rfl, ⟨fun _ q h1 h2 h3 => HA.out q h1 (by omega) h3, fun _ => rfl⟩, KB.out _ HZ.out⟩

end Go.Proofs.Ytamaeggkpdgaiaa
