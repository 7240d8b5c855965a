/- The walk of New. -/
import Derived.Test.YtamaeggkpdgaiaaWu
namespace Go.Proofs.Ytamaeggkpdgaiaa
open Go.RowKit

/-- What New answers. -/
def NewP (vars : Int) (n m : Nat) (L : Nat → Nat × Nat) (C : Nat → Nat → Int) (w : World) (e : Ending) (w' : World) : Prop :=
  (∃ l c, ChkP vars n m L C l c ∧ ((c ≠ 0 ∧ e = .returned (.tuple #[.pointer none, .int .i64 c])) ∨ (c = 0 ∧ ∃ g, w.heap.size ≤ g ∧ e = .returned (.tuple #[.pointer (some ⟨g, 0, none⟩), .int .i64 0])))) ∧ Below w.heap.size w w'

set_option maxRecDepth 100000 in
set_option maxHeartbeats 4000000 in
theorem new_any (vars : Int) (A1 A2 : Option Addr) (n cp1 m cp2 : Nat) (L : Nat → Nat × Nat) (C : Nat → Nat → Int) (w : World) (hL : ∀ i < n, W64 (L i).1 ∧ W64 (L i).2) (hn : n * 16 ≤ 140737488351232) (hm : m * 40 ≤ 140737488351232)
    (s1 : Shape A1 n cp1) (s2 : Shape A2 m cp2) (hr : RowN w w.heap.size 2 A1 n (fF L)) (hr2 : RowN w w.heap.size 5 A2 m (fI C)) :
    Calls Try.prog 29 #[.agg #[.int .i64 vars, .slice A1 n cp1, .slice A2 m cp2]] w fun e w' => NewP vars n m L C w e w' := by
  have HR := Lib.hid hr; have HR2 := Lib.hid hr2; have S1 := Lib.hid s1; have S2 := Lib.hid s2; have HL := Lib.hid hL
  clear hr hr2 s1 s2 hL
  go_enter Try.func29, Try.ntmps29
  have HB0 : Hid (Below w.heap.size w (w.alloc (.cells #[.int .i64 vars, .slice A1 n cp1, .slice A2 m cp2] 67))) := Lib.hid ((Below.refl _ _).alloc (Nat.le_refl _) _)
  go_wp2_with (go_at_call 26; refine (check_any vars A1 A2 n cp1 m cp2 L C _ HL.out hn hm ((HR.out.below HB0.out).more (by simp)) ((HR2.out.below HB0.out).more (by simp))).mono ?_; rintro e w1 ⟨⟨l, c, hchk, rfl⟩, hb⟩; obtain ⟨hc, hf⟩ := bcell hb)
  case _ hne =>
    go_ret2
    exact ⟨⟨l, c, hchk, Or.inl ⟨by simpa using hne, rfl⟩⟩, below_then HB0.out hb⟩
  case _ =>
    have hne : (c != 0) = false := by assumption
    have HC0 : Hid (c = 0) := Lib.hid (by simpa using hne)
    have HBW := Lib.hid (below_then HB0.out hb)
    have hsz := HBW.out.size
    have hz : w.heap.size + 1 ≤ w1.heap.size := by have := hb.size; simpa using this
    have Hc := Lib.hid hchk
    clear hc hf hb hchk
    refine (copied_any vars A1 A2 n cp1 m cp2 L C _ hn hm S1.out S2.out ((HR.out.below HBW.out).more hsz) ((HR2.out.below HBW.out).more hsz)).mono ?_
    rintro e w2 ⟨B1, q1, B2, q2, rfl, ho1, ho2, hb2⟩
    have HB2 := Lib.hid (below_then HBW.out hb2)
    have hz2 := hb2.size
    clear ho1 ho2 hb2
    go_wp2
    go_ret2
    refine ⟨⟨l, c, Hc.out, Or.inr ⟨HC0.out, _, ?_, rfl⟩⟩, (by repeat (first | exact HB2.out | exact Below.refl _ _ | (refine Below.alloc ?_ (by first | exact Nat.le_refl _ | omega | (simp; done) | (simp; omega)) _) | refine Below.drew ?_ | (refine Below.setCell ?_ (by first | exact Nat.le_refl _ | omega | (simp; done) | (simp; omega)) _)))⟩
    omega

end Go.Proofs.Ytamaeggkpdgaiaa
