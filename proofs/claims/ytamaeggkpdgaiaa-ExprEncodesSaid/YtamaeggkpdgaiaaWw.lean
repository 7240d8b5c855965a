/- The walk of the law ExprChecks. -/
import Derived.Test.YtamaeggkpdgaiaaWv
import Derived.Test.YtamaeggkpdgaiaaWn
import Derived.Test.YtamaeggkpdgaiaaOa
namespace Go.Proofs.Ytamaeggkpdgaiaa
open Go.RowKit

theorem rowU {w : World} {B n : Nat} {A : Option Addr} {F : Nat → Nat → Int} (hw : ∀ i < n, ∀ j < 2, (Lit.int .u64 (F i j)).wf = true) (h : RowN w B 2 A n (fun i j => .int .u64 (F i j))) : RowN w B 2 A n (fU (fun i => ((F i 0).toNat, (F i 1).toNat))) :=
  h.congr fun i hi j hj => by
    have a := bounds_u64 (hw i hi j hj)
    rcases (show j = 0 ∨ j = 1 by omega) with rfl | rfl
    · unfold fU; simp; omega
    · unfold fU; simp; omega

theorem ChkP.zero {vars : Int} {n m : Nat} {L : Nat → Nat × Nat} {C : Nat → Nat → Int} {l c l' c' : Int} (h : ChkP vars n m L C l c) (h' : ChkP vars n m L C l' c') : l' = l ∧ c' = c := h'.one h

set_option maxRecDepth 100000 in
set_option maxHeartbeats 4000000 in
theorem exprChecks_any (vars : Int) (A A2 : Option Addr) (n cap m cap2 : Nat) (L : Nat → Nat × Nat) (C : Nat → Nat → Int) (w : World) (hL : ∀ i < n, W64 (L i).1 ∧ W64 (L i).2) (hn : n * 16 ≤ 140737488351232) (hm : m * 40 ≤ 140737488351232)
    (hr : RowN w w.heap.size 2 A n (fU L)) (hr2 : RowN w w.heap.size 5 A2 m (fI C)) :
    Calls Try.prog 5 #[.agg #[.int .i64 vars, .slice A n cap, .slice A2 m cap2]] w fun e w' => e = .returned (.bool true) ∧ Below w.heap.size w w' := by
  have HR := Lib.hid hr; have HR2 := Lib.hid hr2; have HL := Lib.hid hL
  clear hr hr2 hL
  have HB0 : Hid (Below w.heap.size w (w.alloc (.cells #[.int .i64 vars, .slice A n cap, .slice A2 m cap2] 60))) := Lib.hid ((Below.refl _ _).alloc (Nat.le_refl _) _)
  go_enter Try.func5, Try.ntmps5
  go_wp2_with fail
  refine (made_any vars A A2 n cap m cap2 L C _ hn hm ((HR.out.below HB0.out).more (by simp)) ((HR2.out.below HB0.out).more (by simp))).mono ?_
  rintro e w1 ⟨A1, cp1, B1, cq1, rfl, ho1, ho2, hb1⟩
  have hs1 := hb1.size; simp at hs1
  have hz1 : w.heap.size < w1.heap.size := by omega
  have x0 := hb1.cell (p := ⟨w.heap.size, 0, none⟩) (by simp)
  have HB1 := Lib.hid (below_then HB0.out hb1)
  have r1 := RowN.of_own ho1; have r2 := RowN.of_own ho2
  obtain ⟨hc1, hf1⟩ := bcell hb1
  clear x0 hb1
  have R1 := Lib.hid r1; have R2 := Lib.hid r2; have S1 := Lib.hid (Shape.of_own ho1); have S2 := Lib.hid (Shape.of_own ho2); clear r1 r2 ho1 ho2
  go_wp2_with fail
  refine (check_any vars A1 B1 n cp1 m cq1 L C _ HL.out hn hm R1.out R2.out).mono ?_
  rintro e w2 ⟨⟨l, c, hchk, rfl⟩, hb2⟩
  have HC := Lib.hid hchk; clear hchk
  have hs2 := hb2.size
  have hz2 : w.heap.size < w2.heap.size := by omega
  obtain ⟨hc2, hf2⟩ := bcell hb2
  have HB2 := Lib.hid (below_then HB1.out hb2); clear hb2
  go_wp2_with fail
  refine (check16_any vars A A2 n cap m cap2 L C _ HL.out hn hm ((HR.out.below HB2.out).more (by have := HB2.out.size; omega)) ((HR2.out.below HB2.out).more (by have := HB2.out.size; omega))).mono ?_
  rintro e w3 ⟨⟨l', c', hchk', rfl⟩, hb3⟩
  obtain ⟨rfl, rfl⟩ := HC.out.one hchk'
  clear hchk'
  have hs3 := hb3.size
  have hz3 : w.heap.size < w3.heap.size := by omega
  obtain ⟨hc3, hf3⟩ := bcell hb3
  have HB3 := Lib.hid (below_then HB2.out hb3); clear hb3
  go_wp2_with fail
  refine (made_any vars A A2 n cap m cap2 L C _ hn hm ((HR.out.below HB3.out).more (by have := HB3.out.size; omega)) ((HR2.out.below HB3.out).more (by have := HB3.out.size; omega))).mono ?_
  rintro e w4 ⟨A3, cp3, B3, cq3, rfl, ho3, ho4, hb4⟩
  have hs4 := hb4.size
  have HB4 := Lib.hid (below_then HB3.out hb4)
  have R3 := Lib.hid (RowN.of_own ho3); have R4 := Lib.hid (RowN.of_own ho4); have S3 := Lib.hid (Shape.of_own ho3); have S4 := Lib.hid (Shape.of_own ho4); clear ho3 ho4 hb4
  clear hc1 hf1 hc2 hf2 hc3 hf3
  go_wp2_with fail
  refine (new_any vars A3 B3 n cp3 m cq3 L C _ HL.out hn hm S3.out S4.out R3.out R4.out).mono ?_
  rintro e w5 ⟨⟨l', c', hchk', hend⟩, hb5⟩
  obtain ⟨-, rfl⟩ := HC.out.one hchk'
  clear hchk'
  have HB5 := Lib.hid (below_then HB4.out hb5); clear hb5
  rcases hend with ⟨hne, rfl⟩ | ⟨rfl, g, hg, rfl⟩
  · have h0 : (c == 0) = false := by simpa using hne
    have H0 := Lib.hid h0; clear hne
    go_wp2
    go_ret
    exact ⟨rfl, HB5.out⟩
  · go_wp2
    go_ret
    exact ⟨rfl, HB5.out⟩

end Go.Proofs.Ytamaeggkpdgaiaa
