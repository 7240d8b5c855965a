/- The cuts of two intervals: plain law. -/
import Derived.Test.YtamaeggkpdgaiaaHh
namespace Go.Proofs.Ytamaeggkpdgaiaa
open Go.RowKit

/-- A list of patterns in memory. -/
def fC (f : Nat → Nat) (i _j : Nat) : Value := .int .u64 (f i : Int)
def four (x y u v : Nat) (i : Nat) : Nat := if i = 0 then x else if i = 1 then y else if i = 2 then u else v
def InfP (z : Nat) : Prop := z % 9223372036854775808 = 9218868437227405312

/-- The ends that are numbers, rising, as far as they are found. -/
structure CutsI (E : Nat → Nat) (n : Nat) (f : Nat → Nat) : Prop where
  le : n ≤ 4
  up : ∀ i j, i < j → j < n → kD (f i) < kD (f j)
  of : ∀ i, i < n → ∃ j, j < 4 ∧ f i = E j ∧ ¬ InfP (E j)
  down : ∀ j, j < 4 → ¬ InfP (E j) → (∃ i, i < n ∧ f i = E j) ∨ ∀ i, i < n → kD (f i) < kD (E j)
/-- All of them. -/
structure CutsD (E : Nat → Nat) (n : Nat) (f : Nat → Nat) : Prop where
  le : n ≤ 4
  up : ∀ i j, i < j → j < n → kD (f i) < kD (f j)
  of : ∀ i, i < n → ∃ j, j < 4 ∧ f i = E j ∧ ¬ InfP (E j)
  all : ∀ j, j < 4 → ¬ InfP (E j) → ∃ i, i < n ∧ f i = E j

def Cand (E : Nat → Nat) (n : Nat) (f : Nat → Nat) (j : Nat) : Prop := ¬ InfP (E j) ∧ ∀ i, i < n → kD (f i) < kD (E j)
/-- The least of the next ones, among the first i. -/
structure BestI (E : Nat → Nat) (n : Nat) (f : Nat → Nat) (i b : Nat) (fd : Bool) : Prop where
  le : b < 4
  none : fd = false → ∀ j, j < i → ¬ Cand E n f j
  some : fd = true → Cand E n f b ∧ ∀ j, j < i → Cand E n f j → kD (E b) ≤ kD (E j)

theorem cuts_zero (E f : Nat → Nat) : CutsI E 0 f := ⟨by omega, by omega, by omega, fun j hj h => Or.inr (by omega)⟩
theorem best_zero (E : Nat → Nat) (n : Nat) (f : Nat → Nat) : BestI E n f 0 0 false := ⟨by omega, fun _ j h => by omega, fun h => absurd h (by decide)⟩

theorem cand_last {E : Nat → Nat} {m : Nat} {f : Nat → Nat} (h : CutsI E (m + 1) f) (j : Nat) : Cand E (m + 1) f j ↔ ¬ InfP (E j) ∧ kD (f m) < kD (E j) := by
  constructor
  · rintro ⟨h1, h2⟩; exact ⟨h1, h2 m (by omega)⟩
  · rintro ⟨h1, h2⟩
    refine ⟨h1, fun i hi => ?_⟩
    rcases Nat.lt_or_ge i m with hl | hl
    · have := h.up i m hl (by omega); omega
    · have : i = m := by omega
      subst this; exact h2
theorem cand_first {E : Nat → Nat} {f : Nat → Nat} (j : Nat) : Cand E 0 f j ↔ ¬ InfP (E j) := ⟨fun h => h.1, fun h => ⟨h, by omega⟩⟩

theorem best_skip {E : Nat → Nat} {n : Nat} {f : Nat → Nat} {i b : Nat} {fd : Bool} (h : BestI E n f i b fd) (hc : ¬ Cand E n f i) : BestI E n f (i + 1) b fd :=
  ⟨h.le, fun e j hj hcj => by
    rcases Nat.lt_or_ge j i with hl | hl
    · exact h.none e j hl hcj
    · have : j = i := by omega
      subst this; exact hc hcj, fun e => ⟨(h.some e).1, fun j hj hcj => by
    rcases Nat.lt_or_ge j i with hl | hl
    · exact (h.some e).2 j hl hcj
    · have : j = i := by omega
      subst this; exact absurd hcj hc⟩⟩
theorem best_take {E : Nat → Nat} {n : Nat} {f : Nat → Nat} {i b : Nat} {fd : Bool} (h : BestI E n f i b fd) (hi : i < 4) (hc : Cand E n f i) (hl : fd = true → kD (E i) < kD (E b)) : BestI E n f (i + 1) i true :=
  ⟨hi, fun e => absurd e (by decide), fun _ => ⟨hc, fun j hj hcj => by
    rcases Nat.lt_or_ge j i with hlt | hlt
    · cases hf : fd
      · exact absurd hcj (h.none hf j hlt)
      · have := (h.some hf).2 j hlt hcj
        have := hl hf; omega
    · have : j = i := by omega
      subst this; omega⟩⟩
theorem best_keep {E : Nat → Nat} {n : Nat} {f : Nat → Nat} {i b : Nat} (h : BestI E n f i b true) (hl : ¬ kD (E i) < kD (E b)) : BestI E n f (i + 1) b true :=
  ⟨h.le, fun e => absurd e (by decide), fun e => ⟨(h.some e).1, fun j hj hcj => by
    rcases Nat.lt_or_ge j i with hlt | hlt
    · exact (h.some e).2 j hlt hcj
    · have : j = i := by omega
      subst this; omega⟩⟩

def putN (n : Nat) (f : Nat → Nat) (z : Nat) (i : Nat) : Nat := if i = n then z else f i
theorem putN_at {n : Nat} {f : Nat → Nat} {z : Nat} : putN n f z n = z := by unfold putN; simp
theorem putN_lt {n : Nat} {f : Nat → Nat} {z i : Nat} (h : i < n) : putN n f z i = f i := by unfold putN; rw [if_neg (by omega)]
theorem cuts_step {E : Nat → Nat} {n : Nat} {f : Nat → Nat} {b : Nat} (h : CutsI E n f) (hn : n < 4) (hb : BestI E n f 4 b true) (inj : ∀ i j, i < 4 → j < 4 → kD (E i) = kD (E j) → E i = E j) : CutsI E (n + 1) (putN n f (E b)) := by
  obtain ⟨hc, hmin⟩ := hb.some rfl
  refine ⟨by omega, ?_, ?_, ?_⟩
  · intro i j hij hj
    rw [putN_lt (by omega)]
    rcases Nat.lt_or_ge j n with hl | hl
    · rw [putN_lt hl]; exact h.up i j hij hl
    · have : j = n := by omega
      subst this; rw [putN_at]; exact hc.2 i hij
  · intro i hi
    rcases Nat.lt_or_ge i n with hl | hl
    · rw [putN_lt hl]; exact h.of i hl
    · have : i = n := by omega
      subst this; rw [putN_at]; exact ⟨b, hb.le, rfl, hc.1⟩
  · intro j hj hij
    rcases h.down j hj hij with ⟨i, hi, e⟩ | hup
    · exact Or.inl ⟨i, by omega, by rw [putN_lt hi]; exact e⟩
    · have hle := hmin j hj ⟨hij, hup⟩
      rcases Int.lt_or_eq_of_le hle with hlt | heq
      · refine Or.inr fun i hi => ?_
        rcases Nat.lt_or_ge i n with hl | hl
        · rw [putN_lt hl]; exact hup i hl
        · have : i = n := by omega
          subst this; rw [putN_at]; exact hlt
      · exact Or.inl ⟨n, by omega, by rw [putN_at]; exact inj b j hb.le hj heq⟩
theorem cuts_none {E : Nat → Nat} {n : Nat} {f : Nat → Nat} {b : Nat} (h : CutsI E n f) (hb : BestI E n f 4 b false) : CutsD E n f :=
  ⟨h.le, h.up, h.of, fun j hj hij => (h.down j hj hij).resolve_right fun hup => hb.none rfl j hj ⟨hij, hup⟩⟩
theorem cuts_full {E : Nat → Nat} {f : Nat → Nat} (h : CutsI E 4 f) : CutsD E 4 f := by
  refine ⟨h.le, h.up, h.of, fun j hj hij => (h.down j hj hij).resolve_right fun hup => ?_⟩
  have u01 := h.up 0 1 (by omega) (by omega); have u12 := h.up 1 2 (by omega) (by omega); have u23 := h.up 2 3 (by omega) (by omega)
  have v0 := hup 0 (by omega); have v1 := hup 1 (by omega); have v2 := hup 2 (by omega); have v3 := hup 3 (by omega)
  obtain ⟨a, ha, ea, _⟩ := h.of 0 (by omega)
  obtain ⟨b, hb, eb, _⟩ := h.of 1 (by omega)
  obtain ⟨c, hc, ec, _⟩ := h.of 2 (by omega)
  obtain ⟨d, hd, ed, _⟩ := h.of 3 (by omega)
  rw [ea] at u01 v0; rw [eb] at u01 u12 v1; rw [ec] at u12 u23 v2; rw [ed] at u23 v3
  have n1 : a ≠ b := by rintro rfl; omega
  have n2 : a ≠ c := by rintro rfl; omega
  have n3 : a ≠ d := by rintro rfl; omega
  have n4 : b ≠ c := by rintro rfl; omega
  have n5 : b ≠ d := by rintro rfl; omega
  have n6 : c ≠ d := by rintro rfl; omega
  have m1 : a ≠ j := by rintro rfl; omega
  have m2 : b ≠ j := by rintro rfl; omega
  have m3 : c ≠ j := by rintro rfl; omega
  have m4 : d ≠ j := by rintro rfl; omega
  omega

end Go.Proofs.Ytamaeggkpdgaiaa
