/- A line's bytes read back: plain law. -/
import Derived.Test.YtamaeggkpdgaiaaEh
namespace Go.Proofs.Ytamaeggkpdgaiaa
open Go.RowKit

theorem raw_two (l : List Int) (p : Nat) (v : Int) (h0 : l.getD p 0 = v % 256) (h1 : l.getD (p + 1) 0 = v / 256 % 256) : rawV l p 2 = v % 65536 := by
  unfold rawV; rw [if_neg (by decide), h0, h1]; omega
theorem sig_pos (v : Int) (h : 0 ≤ v ∧ v < 65536) : sigV 0 (v % 65536) = v := by unfold sigV; rw [if_neg (by omega)]; omega
theorem sig_neg (v : Int) (h : -1024 ≤ v ∧ v ≤ 1024) : sigV (-1024) (v % 65536) = v := by
  unfold sigV
  split <;> omega

/-- A piece of a list, at p. -/
def HasL (l : List Int) (p : Nat) (m : List Int) : Prop := ∀ q v, m[q]? = some v → l.getD (p + q) 0 = v
theorem HasL.left {l m m' : List Int} {p : Nat} (h : HasL l p (m ++ m')) : HasL l p m := fun q v hq => h q v (by
  rw [List.getElem?_append_left (List.getElem?_eq_some_iff.1 hq).1]; exact hq)
theorem HasL.right {l m m' : List Int} {p : Nat} (h : HasL l p (m ++ m')) : HasL l (p + m.length) m' := fun q v hq => by
  rw [Nat.add_assoc]
  exact h (m.length + q) v (by rw [List.getElem?_append_right (Nat.le_add_right _ _), Nat.add_sub_cancel_left]; exact hq)
theorem HasL.all (l : List Int) : HasL l 0 l := fun q v hq => by
  rw [Nat.zero_add]; simp [List.getD, hq]
theorem HasL.two {l : List Int} {p : Nat} {v : Int} (h : HasL l p (two v)) : rawV l p 2 = v % 65536 := raw_two l p v (h 0 _ rfl) (h 1 _ rfl)

theorem encO_length (C : Nat → Nat → Int) (i O : Nat) : (encO C i O).length = 2 * O := by
  induction O with
  | zero => rfl
  | succ O ih => rw [encO_succ, List.length_append, ih]; rfl
theorem HasL.encO {l : List Int} {p : Nat} {C : Nat → Nat → Int} {i O : Nat} (h : HasL l p (encO C i O)) (k : Nat) (hk : k < O) : HasL l (p + 2 * k) (Proofs.Ytamaeggkpdgaiaa.two (C i (k + 1))) := by
  induction O with
  | zero => omega
  | succ O ih =>
    rw [encO_succ] at h
    rcases Nat.lt_or_ge k O with hl | hl
    · exact ih h.left hl
    · have : k = O := by omega
      subst this
      have := h.right
      rwa [encO_length] at this

/-- What a line that is right says. -/
structure LineOk (vars : Int) (n i : Nat) (C : Nat → Nat → Int) : Prop where
  op : 1 ≤ C i 0 ∧ C i 0 ≤ 21
  low : 0 ≤ opsN (C i 0)
  args : ∀ k, k < 3 → (k < (opsN (C i 0)).toNat → 0 ≤ C i (k + 1) ∧ C i (k + 1) < vars + i) ∧ ((opsN (C i 0)).toNat ≤ k → C i (k + 1) = 0)
  const : C i 0 = 1 → 0 ≤ C i 4 ∧ C i 4 < n
  pown : C i 0 = 12 → -1024 ≤ C i 4 ∧ C i 4 ≤ 1024
  rest : C i 0 ≠ 1 → C i 0 ≠ 12 → C i 4 = 0
theorem badO_ok {vars i n k x : Int} (h : badO vars i n k x = false) : (k < n → 0 ≤ x ∧ x < vars + i) ∧ (n ≤ k → x = 0) := by
  rcases badO_cases vars i n k x with ⟨h1, h2, h3⟩ | ⟨h1, h2, h3⟩
  · refine ⟨fun _ => ?_, fun hh => absurd h2 (by simpa using hh)⟩
    rcases h3 with ⟨_, h5⟩ | ⟨h4, h5⟩
    · rw [h] at h5; cases h5
    · rw [h] at h5; simp at h4 h5; omega
  · refine ⟨fun hh => absurd h1 (by simpa using hh), fun _ => ?_⟩
    rw [h] at h3; simpa using h3
theorem line_ok {vars : Int} {n i : Nat} {C : Nat → Nat → Int} (h : lineC vars n C i = 0) : LineOk vars n i C := by
  unfold lineC lineE at h
  cases h0 : decide (opsN (C i 0) < 0)
  · rw [h0] at h
    cases h1 : badO vars i (opsN (C i 0)) 0 (C i 1)
    · rw [h1] at h
      cases h2 : badO vars i (opsN (C i 0)) 1 (C i 2)
      · rw [h2] at h
        cases h3 : badO vars i (opsN (C i 0)) 2 (C i 3)
        · rw [h3] at h
          simp only [cond_false] at h
          have b1 := badO_ok h1; have b2 := badO_ok h2; have b3 := badO_ok h3
          have hlow : 0 ≤ opsN (C i 0) := by simpa using h0
          have hop : 1 ≤ C i 0 ∧ C i 0 ≤ 21 := by
            revert hlow; unfold opsN; simp only [cond_eq_ite, beq_iff_eq, decide_eq_true_eq]
            repeat' split
            all_goals omega
          unfold tailE at h
          simp only [cond_eq_ite, beq_iff_eq, decide_eq_true_eq] at h
          refine ⟨hop, hlow, ?_, ?_, ?_, ?_⟩
          · intro k hk
            have : k = 0 ∨ k = 1 ∨ k = 2 := by omega
            rcases this with rfl | rfl | rfl
            · exact ⟨fun hh => b1.1 (by omega), fun hh => b1.2 (by omega)⟩
            · exact ⟨fun hh => b2.1 (by omega), fun hh => b2.2 (by omega)⟩
            · exact ⟨fun hh => b3.1 (by omega), fun hh => b3.2 (by omega)⟩
          · intro e; rw [if_pos e] at h
            revert h; split
            · intro h; omega
            · split <;> intro h <;> omega
          · intro e; rw [if_neg (by omega), if_pos e] at h
            revert h; split
            · intro h; omega
            · split <;> intro h <;> omega
          · intro e1 e2; rw [if_neg e1, if_neg e2] at h
            revert h; split
            · intro h; omega
            · rename_i hh; intro _; simpa using hh
        · rw [h3] at h; simp at h
      · rw [h2] at h; simp at h
    · rw [h1] at h; simp at h
  · rw [h0] at h; simp at h

end Go.Proofs.Ytamaeggkpdgaiaa
