/- The program's own tests of floats, as plain functions of their patterns. -/
import Derived.Test.YtamaeggkpdgaiaaFa
namespace Go.Proofs.Ytamaeggkpdgaiaa
open Go.RowKit

def leqF (k : FloatKind) (x y : Nat) : Bool := k.format.order x y == some .lt || k.format.order x y == some .eq
def infPosD (x : Nat) : Bool := FloatKind.f64.format.order x 9218868437227405311 == some .gt
def negF (k : FloatKind) (x : Nat) : Nat := Op.negFloat k x
def infNegD (x : Nat) : Bool := infPosD (negF .f64 x)
def eqZeroF (k : FloatKind) (x : Nat) : Bool := k.format.order x 0 == some .eq
def plainF (k : FloatKind) (x : Nat) : Nat := if eqZeroF k x then 0 else x
/-- A float32 as a float64 (of a NaN: 0 here). -/
def wideF (x : Nat) : Nat := (floatToFloatBits .f32 x .f64).getD 0
def soundS (lo hi : Nat) : Bool := leqF .f32 lo hi && !infPosD (wideF lo) && !infNegD (wideF hi)
def readLoS (lo hi : Nat) : Nat := if soundS lo hi then plainF .f32 lo else 2139095040
def readHiS (lo hi : Nat) : Nat := if soundS lo hi then plainF .f32 hi else 4286578688

@[go_sem] theorem run_neg_float {P : Program} {w : World} (k : FloatKind) (x : Nat) : (Op.unary .neg (.float k x)).run P w = .ok (.float k (negF k x)) w := rfl

theorem isSome_order {f : Ieee.Format} {x y : Nat} (h : f.order x y ≠ none) : (f.read x).isNaN = false ∧ (f.read y).isNaN = false := by
  unfold Ieee.Format.order at h
  generalize f.read x = a at *
  generalize f.read y = b at *
  cases a <;> cases b <;> simp_all [Ieee.Datum.isNaN, Ieee.Datum.order]

theorem leqF_some {k : FloatKind} {x y : Nat} (h : leqF k x y = true) : (k.format.read x).isNaN = false ∧ (k.format.read y).isNaN = false := by
  apply isSome_order
  intro e
  unfold leqF at h
  rw [e] at h
  simp at h

end Go.Proofs.Ytamaeggkpdgaiaa
