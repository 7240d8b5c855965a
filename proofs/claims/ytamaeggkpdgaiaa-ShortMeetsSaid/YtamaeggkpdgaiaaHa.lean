/- The walks of the reference's bounds: Int of 0, Finite of 0, Bound. -/
import Derived.Test.YtamaeggkpdgaiaaNr
import Derived.Test.YtamaeggkpdgaiaaWe
namespace Go.Proofs.Ytamaeggkpdgaiaa
open Go.RowKit

/-- A bound by its pattern: 1, -1 for the infinities, 0 for a number; its ratio. -/
def endI (p : Nat) : Int := if p = 9218868437227405312 then 1 else if p = 18442240474082181120 then -1 else 0
def endS (p : Nat) : Bool := if endI p = 0 then ratS p else false
def endN (p : Nat) : Nat := if endI p = 0 then ratN p else 0
def endD (p : Nat) : Nat := if endI p = 0 then ratD p else 1
/-- The numbers of a bound lie there. -/
def EndR (w : World) (B p : Nat) (A1 A2 : Option Addr) : Prop := NumR w B A1 (wN (endN p)) (endN p) ∧ NumR w B A2 (wN (endD p)) (endD p)
theorem EndR.below {w w' : World} {B p : Nat} {A1 A2 : Option Addr} (h : EndR w B p A1 A2) (hb : Below B w w') : EndR w' B p A1 A2 := ⟨h.1.below hb, h.2.below hb⟩
theorem EndR.more {w : World} {B B' p : Nat} {A1 A2 : Option Addr} (h : EndR w B p A1 A2) (hB : B ≤ B') : EndR w B' p A1 A2 := ⟨h.1.more hB, h.2.more hB⟩
theorem EndR.next {w w' : World} {p : Nat} {A1 A2 : Option Addr} (h : EndR w w.heap.size p A1 A2) (hb : Below w.heap.size w w') : EndR w' w'.heap.size p A1 A2 := ⟨h.1.next hb, h.2.next hb⟩
def EndP (w : World) (p : Nat) (e : Ending) (w' : World) : Prop :=
  ∃ A1 c1 A2 c2, e = .returned (.agg #[.int .i64 (endI p), .bool (endS p), .slice A1 (wN (endN p)) c1, .slice A2 (wN (endD p)) c2]) ∧ EndR w' w'.heap.size p A1 A2 ∧ Below w.heap.size w w'

set_option maxRecDepth 100000 in
set_option maxHeartbeats 1000000 in
theorem int0_any (w : World) :
    Calls Try.prog 131 #[.int .i64 0] w fun e w' => RatP w false 0 1 e w' := by
  go_enter Try.func131, Try.ntmps131
  go_wp2_with fail
  have HB0 : Hid (Below w.heap.size w (w.alloc (.cells #[.bool false, .slice none 0 0, .slice none 0 0] 108))) := Lib.hid ((Below.refl _ _).alloc (Nat.le_refl _) _)
  have hs0 := small_any 0 (by decide) (w.alloc (.cells #[.bool false, .slice none 0 0, .slice none 0 0] 108))
  refine hs0.mono ?_
  rintro e1 w1 ⟨B1, q1, rfl, p1, p2, p3⟩
  clear hs0
  have HB1 : Hid (Below (w.heap.size + 1) (w.alloc (.cells #[.bool false, .slice none 0 0, .slice none 0 0] 108)) (w1.alloc (.cells #[.int .u32 1] 22))) := Lib.hid ((p3.mono (by simp)).alloc (by have := p3.size; simpa using this) _)
  have hs1 : w.heap.size + 1 ≤ w1.heap.size := by have := p3.size; simpa using this
  have HN1 := Lib.hid (p1.next ((Below.refl _ w1).alloc (Nat.le_refl _) (.cells #[.int .u32 1] 22)))
  clear p1 p2 p3
  go_wp2_with fail
  refine (frac_zero false B1 _ _ q1 1 1 1 0 _ (by decide) (by decide) HN1.out one_num).mono ?_
  rintro e2 w2 ⟨B2, q2, B3, q3, rfl, p1, p2, p3⟩
  have HB2 : Hid (Below (w.heap.size + 1) (w.alloc (.cells #[.bool false, .slice none 0 0, .slice none 0 0] 108)) w2) := Lib.hid (HB1.out.trans (p3.mono (by simp; omega)))
  have hs2 : w.heap.size + 1 ≤ w2.heap.size := by have := p3.size; simp at this; omega
  have HN2 := Lib.hid p1
  have HM2 := Lib.hid p2
  clear p1 p2 p3
  have hz : w.heap.size < w2.heap.size := by omega
  have r0 := (HB2.out.cell (p := ⟨w.heap.size, 0, none⟩) (by simp)).trans (show _ = some (.bool false) from by simp [go_sem])
  have r1 := (HB2.out.cell (p := ⟨w.heap.size, 1, none⟩) (by simp)).trans (show _ = some (.slice none 0 0) from by simp [go_sem])
  have r2 := (HB2.out.cell (p := ⟨w.heap.size, 2, none⟩) (by simp)).trans (show _ = some (.slice none 0 0) from by simp [go_sem])
  have x0 := (HB2.out.frozen (p := ⟨w.heap.size, 0, none⟩) (by simp)).trans (show _ = false from by simp [go_sem])
  have x1 := (HB2.out.frozen (p := ⟨w.heap.size, 1, none⟩) (by simp)).trans (show _ = false from by simp [go_sem])
  have x2 := (HB2.out.frozen (p := ⟨w.heap.size, 2, none⟩) (by simp)).trans (show _ = false from by simp [go_sem])
  go_wp2
  refine bodyPost_ret (v := .agg #[.bool false, .slice B2 (wN 0) q2, .slice B3 (wN 1) q3]) (by simp [results, Try.results131, go_sem, *]) rfl ?_
  exact ratP_of HN2.out HM2.out (HN2.out.off HB2.out) (HM2.out.off HB2.out) (Nat.le_refl _) (HB0.out.trans (HB2.out.mono (by omega)))

/-- A number does not lie in a block whose cells are no words. -/
theorem NumR.not_in {w' : World} {B n N g : Nat} {A : Option Addr} {xs : Array Value} {t : TypeId} (h : NumR w' B A n N) (hb : w'.heap[g]? = some (.cells xs t (0, 0))) (hx : ∀ (i : Nat) (z : Int), xs[i]? ≠ some (Value.int IntKind.u32 z)) : 0 < n → ∀ a, A = some a → a.block ≠ g := by
  intro hn a ha he
  obtain ⟨b, off, e, _, hc⟩ := h.2 hn
  rw [ha] at e; cases e
  have h0 := hc 0 hn 0 (by omega)
  simp only at he; subst he
  unfold World.cell? at h0
  simp only [hb] at h0
  exact hx _ _ (by simpa using h0)
theorem EndR.set4 {w : World} {B p g : Nat} {A1 A2 : Option Addr} {x y z u : Value} (h : EndR w B p A1 A2) (n1 : 0 < wN (endN p) → ∀ a, A1 = some a → a.block ≠ g) (n2 : 0 < wN (endD p) → ∀ a, A2 = some a → a.block ≠ g) :
    EndR ((((w.setCell ⟨g, 0, none⟩ x).setCell ⟨g, 1, none⟩ y).setCell ⟨g, 2, none⟩ z).setCell ⟨g, 3, none⟩ u) B p A1 A2 :=
  ⟨(((h.1.setCell x n1).setCell y n1).setCell z n1).setCell u n1, (((h.2.setCell x n2).setCell y n2).setCell z n2).setCell u n2⟩
theorem below_set4 {w w2 : World} {g : Nat} {x y z u : Value} (hb : Below w.heap.size w w2) (hg : w.heap.size ≤ g) : Below w.heap.size w ((((w2.setCell ⟨g, 0, none⟩ x).setCell ⟨g, 1, none⟩ y).setCell ⟨g, 2, none⟩ z).setCell ⟨g, 3, none⟩ u) :=
  (((hb.setCell (by simpa using hg) _).setCell (by simpa using hg) _).setCell (by simpa using hg) _).setCell (by simpa using hg) _
/-- The block of a bound that is being made. -/
theorem EndR.off {w w' : World} {B p : Nat} {A1 A2 : Option Addr} {t : TypeId} (h : EndR w' B p A1 A2) (hb : Below (w.heap.size + 1) (w.alloc (.cells #[.int .i64 0, .bool false, .slice none 0 0, .slice none 0 0] t)) w') :
    (0 < wN (endN p) → ∀ a, A1 = some a → a.block ≠ w.heap.size) ∧ (0 < wN (endD p) → ∀ a, A2 = some a → a.block ≠ w.heap.size) := by
  have hk : w'.heap[w.heap.size]? = some (.cells #[.int .i64 0, .bool false, .slice none 0 0, .slice none 0 0] t (0, 0)) := by
    rw [hb.block w.heap.size (by omega)]; exact heap_alloc_new w _
  have hx : ∀ (i : Nat) (z : Int), (#[.int .i64 0, .bool false, .slice none 0 0, .slice none 0 0] : Array Value)[i]? ≠ some (Value.int IntKind.u32 z) := by
    intro i z hi
    match i, hi with
    | 0, hi => simp at hi
    | 1, hi => simp at hi
    | 2, hi => simp at hi
    | 3, hi => simp at hi
    | q + 4, hi => simp at hi
  exact ⟨h.1.not_in hk hx, h.2.not_in hk hx⟩

theorem end_inf {p : Nat} (h : endI p ≠ 0) : endS p = false ∧ endN p = 0 ∧ endD p = 1 := by
  unfold endS endN endD; simp [h]
theorem end_fin {p : Nat} (h : endI p = 0) : endS p = ratS p ∧ endN p = ratN p ∧ endD p = ratD p := by
  unfold endS endN endD; simp [h]

set_option maxRecDepth 100000 in
set_option maxHeartbeats 1000000 in
theorem finite0_any (w : World) :
    Calls Try.prog 103 #[.int .i64 0] w fun e w' => EndP w 0 e w' := by
  have z1 : endI 0 = 0 := rfl
  have z2 : endS 0 = false := rfl
  have z3 : endN 0 = 0 := rfl
  have z4 : endD 0 = 1 := by decide
  go_enter Try.func103, Try.ntmps103
  go_wp2_with fail
  have HB0 : Hid (Below w.heap.size w (w.alloc (.cells #[.int .i64 0, .bool false, .slice none 0 0, .slice none 0 0] 110))) := Lib.hid ((Below.refl _ _).alloc (Nat.le_refl _) _)
  refine (int0_any _).mono ?_
  rintro e2 w2 ⟨B2, q2, B3, q3, rfl, p1, p2, p3⟩
  have HB2 : Hid (Below (w.heap.size + 1) (w.alloc (.cells #[.int .i64 0, .bool false, .slice none 0 0, .slice none 0 0] 110)) w2) := Lib.hid (p3.mono (by simp))
  have hs2 : w.heap.size + 1 ≤ w2.heap.size := by have := HB2.out.size; simpa using this
  have HE : Hid (EndR w2 w2.heap.size 0 B2 B3) := Lib.hid (⟨by rw [z3]; exact p1, by rw [z4]; exact p2⟩)
  clear p1 p2 p3
  have hz : w.heap.size < w2.heap.size := by omega
  have r0 := (HB2.out.cell (p := ⟨w.heap.size, 0, none⟩) (by simp)).trans (show _ = some (.int .i64 0) from by simp [go_sem])
  have r1 := (HB2.out.cell (p := ⟨w.heap.size, 1, none⟩) (by simp)).trans (show _ = some (.bool false) from by simp [go_sem])
  have r2 := (HB2.out.cell (p := ⟨w.heap.size, 2, none⟩) (by simp)).trans (show _ = some (.slice none 0 0) from by simp [go_sem])
  have r3 := (HB2.out.cell (p := ⟨w.heap.size, 3, none⟩) (by simp)).trans (show _ = some (.slice none 0 0) from by simp [go_sem])
  have x0 := (HB2.out.frozen (p := ⟨w.heap.size, 0, none⟩) (by simp)).trans (show _ = false from by simp [go_sem])
  have x1 := (HB2.out.frozen (p := ⟨w.heap.size, 1, none⟩) (by simp)).trans (show _ = false from by simp [go_sem])
  have x2 := (HB2.out.frozen (p := ⟨w.heap.size, 2, none⟩) (by simp)).trans (show _ = false from by simp [go_sem])
  have x3 := (HB2.out.frozen (p := ⟨w.heap.size, 3, none⟩) (by simp)).trans (show _ = false from by simp [go_sem])
  go_wp2
  refine bodyPost_ret (v := .agg #[.int .i64 (endI 0), .bool (endS 0), .slice B2 (wN (endN 0)) q2, .slice B3 (wN (endD 0)) q3]) (by simp [results, Try.results103, go_sem, *]) rfl ?_
  refine ⟨B2, q2, B3, q3, rfl, ?_, below_set4 (HB0.out.trans (HB2.out.mono (by omega))) (Nat.le_refl _)⟩
  simpa using HE.out.set4 (HE.out.off HB2.out).1 (HE.out.off HB2.out).2

/-- A pattern that is a number of binary64 with a plain zero, or an infinity. -/
def PlainE (p : Nat) : Prop := W64 p ∧ plainD p = p
set_option maxRecDepth 100000 in
set_option maxHeartbeats 1000000 in
theorem bound_any (p : Nat) (hp : PlainE p) (w : World) :
    Calls Try.prog 104 #[.int .u64 (p : Int)] w fun e w' => EndP w p e w' := by
  obtain ⟨hw, hpl⟩ := hp
  by_cases h1 : p = 9218868437227405312
  · have hI : endI p = 1 := by unfold endI; rw [if_pos h1]
    obtain ⟨hS, hN, hD⟩ := end_inf (p := p) (by rw [hI]; decide)
    have t1 : ((p : Int) == 9218868437227405312) = true := by simp; omega
    clear h1
    go_enter Try.func104, Try.ntmps104
    go_wp2_with fail
    have HB0 : Hid (Below w.heap.size w (w.alloc (.cells #[.int .i64 0, .bool false, .slice none 0 0, .slice none 0 0] 110))) := Lib.hid ((Below.refl _ _).alloc (Nat.le_refl _) _)
    refine (int0_any _).mono ?_
    rintro e2 w2 ⟨B2, q2, B3, q3, rfl, p1, p2, p3⟩
    have HB2 : Hid (Below (w.heap.size + 1) (w.alloc (.cells #[.int .i64 0, .bool false, .slice none 0 0, .slice none 0 0] 110)) w2) := Lib.hid (p3.mono (by simp))
    have hs2 : w.heap.size + 1 ≤ w2.heap.size := by have := HB2.out.size; simpa using this
    have HE : Hid (EndR w2 w2.heap.size p B2 B3) := Lib.hid (⟨by rw [hN]; exact p1, by rw [hD]; exact p2⟩)
    clear p1 p2 p3
    have hz : w.heap.size < w2.heap.size := by omega
    have r0 := (HB2.out.cell (p := ⟨w.heap.size, 0, none⟩) (by simp)).trans (show _ = some (.int .i64 0) from by simp [go_sem])
    have r1 := (HB2.out.cell (p := ⟨w.heap.size, 1, none⟩) (by simp)).trans (show _ = some (.bool false) from by simp [go_sem])
    have r2 := (HB2.out.cell (p := ⟨w.heap.size, 2, none⟩) (by simp)).trans (show _ = some (.slice none 0 0) from by simp [go_sem])
    have r3 := (HB2.out.cell (p := ⟨w.heap.size, 3, none⟩) (by simp)).trans (show _ = some (.slice none 0 0) from by simp [go_sem])
    have x0 := (HB2.out.frozen (p := ⟨w.heap.size, 0, none⟩) (by simp)).trans (show _ = false from by simp [go_sem])
    have x1 := (HB2.out.frozen (p := ⟨w.heap.size, 1, none⟩) (by simp)).trans (show _ = false from by simp [go_sem])
    have x2 := (HB2.out.frozen (p := ⟨w.heap.size, 2, none⟩) (by simp)).trans (show _ = false from by simp [go_sem])
    have x3 := (HB2.out.frozen (p := ⟨w.heap.size, 3, none⟩) (by simp)).trans (show _ = false from by simp [go_sem])
    go_wp2
    refine bodyPost_ret (v := .agg #[.int .i64 (endI p), .bool (endS p), .slice B2 (wN (endN p)) q2, .slice B3 (wN (endD p)) q3]) (by simp [results, Try.results104, go_sem, *]) rfl ?_
    refine ⟨B2, q2, B3, q3, rfl, ?_, below_set4 (HB0.out.trans (HB2.out.mono (by omega))) (Nat.le_refl _)⟩
    simpa using HE.out.set4 (HE.out.off HB2.out).1 (HE.out.off HB2.out).2
  · have t1 : ((p : Int) == 9218868437227405312) = false := by simp; omega
    by_cases h2 : p = 18442240474082181120
    · have hI : endI p = -1 := by unfold endI; rw [if_neg h1, if_pos h2]
      obtain ⟨hS, hN, hD⟩ := end_inf (p := p) (by rw [hI]; decide)
      have t2 : ((p : Int) == 18442240474082181120) = true := by simp; omega
      clear h1 h2
      go_enter Try.func104, Try.ntmps104
      go_wp2_with fail
      have HB0 : Hid (Below w.heap.size w (w.alloc (.cells #[.int .i64 0, .bool false, .slice none 0 0, .slice none 0 0] 110))) := Lib.hid ((Below.refl _ _).alloc (Nat.le_refl _) _)
      refine (int0_any _).mono ?_
      rintro e2 w2 ⟨B2, q2, B3, q3, rfl, p1, p2, p3⟩
      have HB2 : Hid (Below (w.heap.size + 1) (w.alloc (.cells #[.int .i64 0, .bool false, .slice none 0 0, .slice none 0 0] 110)) w2) := Lib.hid (p3.mono (by simp))
      have hs2 : w.heap.size + 1 ≤ w2.heap.size := by have := HB2.out.size; simpa using this
      have HE : Hid (EndR w2 w2.heap.size p B2 B3) := Lib.hid (⟨by rw [hN]; exact p1, by rw [hD]; exact p2⟩)
      clear p1 p2 p3
      have hz : w.heap.size < w2.heap.size := by omega
      have r0 := (HB2.out.cell (p := ⟨w.heap.size, 0, none⟩) (by simp)).trans (show _ = some (.int .i64 0) from by simp [go_sem])
      have r1 := (HB2.out.cell (p := ⟨w.heap.size, 1, none⟩) (by simp)).trans (show _ = some (.bool false) from by simp [go_sem])
      have r2 := (HB2.out.cell (p := ⟨w.heap.size, 2, none⟩) (by simp)).trans (show _ = some (.slice none 0 0) from by simp [go_sem])
      have r3 := (HB2.out.cell (p := ⟨w.heap.size, 3, none⟩) (by simp)).trans (show _ = some (.slice none 0 0) from by simp [go_sem])
      have x0 := (HB2.out.frozen (p := ⟨w.heap.size, 0, none⟩) (by simp)).trans (show _ = false from by simp [go_sem])
      have x1 := (HB2.out.frozen (p := ⟨w.heap.size, 1, none⟩) (by simp)).trans (show _ = false from by simp [go_sem])
      have x2 := (HB2.out.frozen (p := ⟨w.heap.size, 2, none⟩) (by simp)).trans (show _ = false from by simp [go_sem])
      have x3 := (HB2.out.frozen (p := ⟨w.heap.size, 3, none⟩) (by simp)).trans (show _ = false from by simp [go_sem])
      go_wp2
      refine bodyPost_ret (v := .agg #[.int .i64 (endI p), .bool (endS p), .slice B2 (wN (endN p)) q2, .slice B3 (wN (endD p)) q3]) (by simp [results, Try.results104, go_sem, *]) rfl ?_
      refine ⟨B2, q2, B3, q3, rfl, ?_, below_set4 (HB0.out.trans (HB2.out.mono (by omega))) (Nat.le_refl _)⟩
      simpa using HE.out.set4 (HE.out.off HB2.out).1 (HE.out.off HB2.out).2
    · have hI : endI p = 0 := by unfold endI; rw [if_neg h1, if_neg h2]
      obtain ⟨hS, hN, hD⟩ := end_fin hI
      have t2 : ((p : Int) == 18442240474082181120) = false := by simp; omega
      have HPl := Lib.hid hpl; have HW := Lib.hid hw
      clear h1 h2 hpl hw
      go_enter Try.func104, Try.ntmps104
      go_wp2_with fail
      have HB0 : Hid (Below w.heap.size w (w.alloc (.cells #[.int .i64 0, .bool false, .slice none 0 0, .slice none 0 0] 110))) := Lib.hid ((Below.refl _ _).alloc (Nat.le_refl _) _)
      refine (plainD_any p HW.out _).mono ?_
      rintro e1 w' ⟨rfl, rfl⟩
      rw [HPl.out]
      go_wp2_with fail
      refine (fromBits_any p HW.out _).mono ?_
      rintro e2 w2 ⟨B2, q2, B3, q3, rfl, p1, p2, p3⟩
      have HB2 : Hid (Below (w.heap.size + 1) (w.alloc (.cells #[.int .i64 0, .bool false, .slice none 0 0, .slice none 0 0] 110)) w2) := Lib.hid (p3.mono (by simp))
      have hs2 : w.heap.size + 1 ≤ w2.heap.size := by have := HB2.out.size; simpa using this
      have HE : Hid (EndR w2 w2.heap.size p B2 B3) := Lib.hid (⟨by rw [hN]; exact p1, by rw [hD]; exact p2⟩)
      clear p1 p2 p3
      have hz : w.heap.size < w2.heap.size := by omega
      have r0 := (HB2.out.cell (p := ⟨w.heap.size, 0, none⟩) (by simp)).trans (show _ = some (.int .i64 0) from by simp [go_sem])
      have r1 := (HB2.out.cell (p := ⟨w.heap.size, 1, none⟩) (by simp)).trans (show _ = some (.bool false) from by simp [go_sem])
      have r2 := (HB2.out.cell (p := ⟨w.heap.size, 2, none⟩) (by simp)).trans (show _ = some (.slice none 0 0) from by simp [go_sem])
      have r3 := (HB2.out.cell (p := ⟨w.heap.size, 3, none⟩) (by simp)).trans (show _ = some (.slice none 0 0) from by simp [go_sem])
      have x0 := (HB2.out.frozen (p := ⟨w.heap.size, 0, none⟩) (by simp)).trans (show _ = false from by simp [go_sem])
      have x1 := (HB2.out.frozen (p := ⟨w.heap.size, 1, none⟩) (by simp)).trans (show _ = false from by simp [go_sem])
      have x2 := (HB2.out.frozen (p := ⟨w.heap.size, 2, none⟩) (by simp)).trans (show _ = false from by simp [go_sem])
      have x3 := (HB2.out.frozen (p := ⟨w.heap.size, 3, none⟩) (by simp)).trans (show _ = false from by simp [go_sem])
      go_wp2
      refine bodyPost_ret (v := .agg #[.int .i64 (endI p), .bool (endS p), .slice B2 (wN (endN p)) q2, .slice B3 (wN (endD p)) q3]) (by simp [results, Try.results104, go_sem, *]) rfl ?_
      refine ⟨B2, q2, B3, q3, rfl, ?_, below_set4 (HB0.out.trans (HB2.out.mono (by omega))) (Nat.le_refl _)⟩
      simpa using HE.out.set4 (HE.out.off HB2.out).1 (HE.out.off HB2.out).2

end Go.Proofs.Ytamaeggkpdgaiaa
