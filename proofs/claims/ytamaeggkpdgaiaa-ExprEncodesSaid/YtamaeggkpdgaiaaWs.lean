/- The walks of the two checks of a program. -/
import Derived.Test.YtamaeggkpdgaiaaWr
namespace Go.Proofs.Ytamaeggkpdgaiaa
open Go.RowKit

/-- What is wrong with the line number i. -/
def lineC (vars : Int) (n : Nat) (C : Nat → Nat → Int) (i : Nat) : Int := lineE vars n i (C i 0) (C i 1) (C i 2) (C i 3) (C i 4)
/-- What a check of a program answers: the line, the error. -/
inductive ChkP (vars : Int) (n m : Nat) (L : Nat → Nat × Nat) (C : Nat → Nat → Int) : Int → Int → Prop
  | vars : vars < 0 ∨ 32 < vars → ChkP vars n m L C 0 160
  | many : 0 ≤ vars → vars ≤ 32 → 256 < n → ChkP vars n m L C 0 161
  | const (i : Nat) : 0 ≤ vars → vars ≤ 32 → n ≤ 256 → i < n → validD (L i).1 (L i).2 = false → ChkP vars n m L C 0 161
  | code : 0 ≤ vars → vars ≤ 32 → n ≤ 256 → (∀ i < n, validD (L i).1 (L i).2 = true) → m = 0 ∨ 1024 < m → ChkP vars n m L C 0 162
  | line (i : Nat) (e : Int) : 0 ≤ vars → vars ≤ 32 → n ≤ 256 → (∀ i < n, validD (L i).1 (L i).2 = true) → 0 < m → m ≤ 1024 → i < m →
      (∀ j < i, lineC vars n C j = 0) → lineC vars n C i = e → e ≠ 0 → ChkP vars n m L C i e
  | ok : 0 ≤ vars → vars ≤ 32 → n ≤ 256 → (∀ i < n, validD (L i).1 (L i).2 = true) → 0 < m → m ≤ 1024 → (∀ j < m, lineC vars n C j = 0) → ChkP vars n m L C 0 0

theorem ChkP.one {vars : Int} {n m : Nat} {L : Nat → Nat × Nat} {C : Nat → Nat → Int} {l l' e e' : Int} (h : ChkP vars n m L C l e) (h' : ChkP vars n m L C l' e') : l = l' ∧ e = e' := by
  have key : ∀ i, i < n → validD (L i).1 (L i).2 = false → (∀ i < n, validD (L i).1 (L i).2 = true) → False := fun i hi h1 h2 => by rw [h2 i hi] at h1; cases h1
  have lk : ∀ i j : Nat, (∀ q < i, lineC vars n C q = 0) → lineC vars n C j ≠ 0 → i ≤ j := fun i j h1 h2 => by
    rcases Nat.lt_or_ge j i with h | h
    · exact absurd (h1 j h) h2
    · exact h
  cases h <;> cases h' <;> first | exact ⟨rfl, rfl⟩ | (exfalso; omega) | (exfalso; exact key _ (by assumption) (by assumption) (by assumption)) | skip
  case line.line i _ _ _ _ _ _ p0 p1 p2 p3 j _ _ _ _ _ _ q0 q1 q2 q3 =>
    have a := lk _ _ p1 (by rw [q2]; exact q3)
    have b := lk _ _ q1 (by rw [p2]; exact p3)
    have : i = j := by omega
    subst this
    exact ⟨rfl, p2.symm.trans q2⟩
  case line.ok i _ _ _ _ _ _ p0 p1 p2 p3 _ _ _ _ _ _ q1 => exact absurd (p2.symm.trans (q1 i p0)) p3
  case ok.line _ _ _ _ _ _ q1 i _ _ _ _ _ _ p0 p1 p2 p3 => exact absurd (p2.symm.trans (q1 i p0)) p3

end Go.Proofs.Ytamaeggkpdgaiaa
