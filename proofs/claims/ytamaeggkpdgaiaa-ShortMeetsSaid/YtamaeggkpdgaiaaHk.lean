/- The walks of vergeref9.place and vergeref9.rows. -/
import Derived.Test.YtamaeggkpdgaiaaHj
namespace Go.Proofs.Ytamaeggkpdgaiaa
open Go.RowKit

/-- The place of an end among the cuts. -/
def PlaceP (n : Nat) (f : Nat → Nat) (e p : Nat) : Prop :=
  (e = 18442240474082181120 ∧ p = 0) ∨ (e ≠ 18442240474082181120 ∧ ∃ s, s ≤ n ∧ (∀ j, j < s → f j ≠ e) ∧ (s < n → f s = e) ∧ p = 4 * (s + 1))
theorem first_in (f : Nat → Nat) (e n : Nat) : ∃ s, s ≤ n ∧ (∀ j, j < s → f j ≠ e) ∧ (s < n → f s = e) := by
  induction n with
  | zero => exact ⟨0, by omega, by omega, by omega⟩
  | succ n ih =>
    obtain ⟨s, h1, h2, h3⟩ := ih
    by_cases h : s < n
    · exact ⟨s, by omega, h2, fun _ => h3 h⟩
    · have : s = n := by omega
      subst this
      by_cases hf : f s = e
      · exact ⟨s, by omega, h2, fun _ => hf⟩
      · refine ⟨s + 1, by omega, fun j hj => ?_, by omega⟩
        rcases Nat.lt_or_ge j s with h | h
        · exact h2 j h
        · have : j = s := by omega
          subst this; exact hf
theorem place_ex (n : Nat) (f : Nat → Nat) (e : Nat) : ∃ p, PlaceP n f e p := by
  by_cases h : e = 18442240474082181120
  · exact ⟨0, Or.inl ⟨h, rfl⟩⟩
  · obtain ⟨s, h1, h2, h3⟩ := first_in f e n
    exact ⟨4 * (s + 1), Or.inr ⟨h, s, h1, h2, h3, rfl⟩⟩

set_option maxRecDepth 100000 in
set_option maxHeartbeats 400000 in
theorem place_any (e p n cap B : Nat) (A : Option Addr) (f : Nat → Nat) (hn : n ≤ 4) (hp : PlaceP n f e p) (w : World) (hr : RowN w B 1 A n (fC f)) :
    Calls Try.prog 127 #[.int .u64 (e : Int), .slice A n cap] w fun e' w' => e' = .returned (.int .i64 (p : Int)) ∧ w = w' := by
  have HR := Lib.hid hr; clear hr
  rcases hp with ⟨rfl, rfl⟩ | ⟨hm, s, hs, hno, hyes, rfl⟩
  · go_enter Try.func127, Try.ntmps127
    go_wp2
    go_ret
    exact ⟨rfl, rfl⟩
  · have hm' : ((e : Int) == 18442240474082181120) = false := by rw [beq_eq_false_iff_ne]; omega
    have HNo := Lib.hid hno; have HYes := Lib.hid hyes
    clear hm hno hyes
    go_enter Try.func127, Try.ntmps127
    go_wp2
    go_loop [5] (fun v => ∃ k : Nat, k ≤ s ∧ v = .int .i64 (k : Int)) (fun v => s - (intOf v).toNat)
    case atStart => exact ⟨0, by omega, rfl⟩
    case round =>
      obtain ⟨k, hk, rfl⟩ := hrel
      by_cases hkn : k < n
      · have hkn' : (k : Int) < (n : Int) := by omega
        obtain ⟨b, off, rfl, hbB, hc⟩ := HR.out (by omega)
        have c1 := hc k hkn 0 (by omega)
        simp only [Nat.mul_one, Nat.add_zero, fC] at c1
        clear hc
        by_cases hks : k < s
        · have hne : ((f k : Int) == (e : Int)) = false := by rw [beq_eq_false_iff_ne]; have := HNo.out k hks; omega
          go_wp2
          go_round
          case rel => exact ⟨k + 1, by omega, by go_num⟩
          case measure => simp [intOf]; omega
        · have hks' : k = s := by omega
          subst hks'
          have hne : ((f k : Int) == (e : Int)) = true := by rw [beq_iff_eq, HYes.out hkn]
          go_wp2
          go_ret
          exact ⟨ret_int (by omega), rfl⟩
      · have hkn' : ¬ (k : Int) < (n : Int) := by omega
        have hks' : k = s := by omega
        have hsn : s = n := by omega
        subst hks'; subst hsn
        go_wp2
        go_ret
        exact ⟨ret_int (by omega), rfl⟩

end Go.Proofs.Ytamaeggkpdgaiaa
