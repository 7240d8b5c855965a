/- The walks of the reference's ratios: Frac. -/
import Derived.Test.YtamaeggkpdgaiaaNl
namespace Go.Proofs.Ytamaeggkpdgaiaa
open Go.RowKit

/-- N by D times 2^e, in the form in which Frac writes it. -/
def fracE (N D : Nat) (e : Int) : Int := e + (tz N : Int) - (tz D : Int)
def fracN (N D : Nat) (e : Int) : Nat := if N = 0 then 0 else N / 2 ^ tz N * 2 ^ (fracE N D e).toNat
def fracD (N D : Nat) (e : Int) : Nat := if N = 0 then 1 else D / 2 ^ tz D * 2 ^ (-fracE N D e).toNat
/-- What a call answers that makes a ratio. -/
def RatP (w : World) (s : Bool) (N D : Nat) (e : Ending) (w' : World) : Prop :=
  ∃ A1 c1 A2 c2, e = .returned (.agg #[.bool s, .slice A1 (wN N) c1, .slice A2 (wN D) c2]) ∧ NumR w' w'.heap.size A1 (wN N) N ∧ NumR w' w'.heap.size A2 (wN D) D ∧ Below w.heap.size w w'

theorem one_num {w : World} {t : TypeId} : NumR (w.alloc (.cells #[.int .u32 1] t)) (w.alloc (.cells #[.int .u32 1] t)).heap.size (some ⟨w.heap.size, 0, none⟩) 1 1 := by
  refine ⟨by decide, fun _ => ⟨_, _, rfl, by simp, fun i hi j hj => ?_⟩⟩
  obtain rfl : j = 0 := by omega
  obtain rfl : i = 0 := by omega
  simp [go_sem, dig]
theorem wN_one : wN 1 = 1 := by decide
theorem wN_two {N : Nat} (h : N < 4294967296) (h0 : N ≠ 0) : wN N = 1 := by
  have h1 := wN_pos h0; have h2 := wN_le.2 (show N < 4294967296 ^ 1 by simpa using h); omega

theorem NumR.setCell {w : World} {B n N g j : Nat} {A : Option Addr} (v : Value) (h : NumR w B A n N) (hne : 0 < n → ∀ a, A = some a → a.block ≠ g) : NumR (w.setCell ⟨g, j, none⟩ v) B A n N := by
  refine ⟨h.1, fun hn => ?_⟩
  obtain ⟨b, off, e, hb, hc⟩ := h.2 hn
  exact ⟨b, off, e, hb, fun i hi j' hj => by
    rw [World.cell?_setCell_other _ _ _ _ (by intro e2; injection e2 with e3; exact hne hn _ e e3.symm)]; exact hc i hi j' hj⟩
/-- A ratio's block, written as it is answered. -/
theorem ratP_of {w w2 : World} {s : Bool} {N D g : Nat} {A1 A2 : Option Addr} {c1 c2 : Nat} {x y z : Value} (h1 : NumR w2 w2.heap.size A1 (wN N) N) (h2 : NumR w2 w2.heap.size A2 (wN D) D) (n1 : 0 < wN N → ∀ a, A1 = some a → a.block ≠ g) (n2 : 0 < wN D → ∀ a, A2 = some a → a.block ≠ g) (hg : w.heap.size ≤ g) (hb : Below w.heap.size w w2) :
    RatP w s N D (.returned (.agg #[.bool s, .slice A1 (wN N) c1, .slice A2 (wN D) c2])) (((w2.setCell ⟨g, 0, none⟩ x).setCell ⟨g, 1, none⟩ y).setCell ⟨g, 2, none⟩ z) :=
  ⟨A1, c1, A2, c2, rfl, by simpa using ((h1.setCell x n1).setCell y n1).setCell z n1, by simpa using ((h2.setCell x n2).setCell y n2).setCell z n2, ((hb.setCell (by simpa using hg) _).setCell (by simpa using hg) _).setCell (by simpa using hg) _⟩
/-- A number does not lie in the block of a ratio that is being made. -/
theorem NumR.off {w w' : World} {B n N : Nat} {A : Option Addr} {t : TypeId} (h : NumR w' B A n N) (hb : Below (w.heap.size + 1) (w.alloc (.cells #[.bool false, .slice none 0 0, .slice none 0 0] t)) w') : 0 < n → ∀ a, A = some a → a.block ≠ w.heap.size := by
  intro hn a ha he
  obtain ⟨b, off, e, _, hc⟩ := h.2 hn
  rw [ha] at e; cases e
  have h0 := hc 0 hn 0 (by omega)
  simp only at he; subst he
  rw [hb.cell (p := ⟨w.heap.size, _, none⟩) (by simp)] at h0
  unfold World.cell? World.alloc at h0
  simp at h0
  match off, h0 with
  | 0, h0 => simp at h0
  | 1, h0 => simp at h0
  | 2, h0 => simp at h0
  | q + 3, h0 => simp at h0

set_option maxRecDepth 100000 in
set_option maxHeartbeats 1000000 in
theorem frac_zero (s : Bool) (A1 A2 : Option Addr) (n cp1 m cp2 D : Nat) (e : Int) (w : World) (hn : n ≤ 17592186044416) (hm : m ≤ 17592186044416) (h : NumR w w.heap.size A1 n 0) (h2 : NumR w w.heap.size A2 m D) :
    Calls Try.prog 145 #[.bool s, .slice A1 n cp1, .slice A2 m cp2, .int .i64 e] w fun en w' => RatP w false 0 1 en w' := by
  have HN := Lib.hid h; have HM := Lib.hid h2; clear h h2
  have hw0 : wN 0 = 0 := rfl
  go_enter Try.func145, Try.ntmps145
  go_wp2_with fail
  have HB0 : Hid (Below w.heap.size w (w.alloc (.cells #[.bool false, .slice none 0 0, .slice none 0 0] 108))) := Lib.hid ((Below.refl _ _).alloc (Nat.le_refl _) _)
  refine (norm_any A1 n cp1 0 _ (by omega) (HN.out.next HB0.out)).mono ?_
  rintro e w1 ⟨A, cap, rfl, p1, p2, p3⟩
  have HM1 := Lib.hid ((HM.out.next HB0.out).next p3)
  have HB1 : Hid (Below (w.heap.size + 1) (w.alloc (.cells #[.bool false, .slice none 0 0, .slice none 0 0] 108)) w1) := Lib.hid (p3.mono (by simp))
  have hs1 := p3.size
  clear p1 p2 p3
  go_wp2_with fail
  refine (norm_any A2 m cp2 D _ (by omega) HM1.out).mono ?_
  rintro e w2 ⟨A', cap', rfl, p1, p2, p3⟩
  have HB2 : Hid (Below (w.heap.size + 1) (w.alloc (.cells #[.bool false, .slice none 0 0, .slice none 0 0] 108)) w2) := Lib.hid (HB1.out.trans (p3.mono (by simp at hs1; omega)))
  clear p1 p2 p3
  have r0 := (HB2.out.cell (p := ⟨w.heap.size, 0, none⟩) (by simp)).trans (show _ = some (.bool false) from by simp [go_sem])
  have r1 := (HB2.out.cell (p := ⟨w.heap.size, 1, none⟩) (by simp)).trans (show _ = some (.slice none 0 0) from by simp [go_sem])
  have r2 := (HB2.out.cell (p := ⟨w.heap.size, 2, none⟩) (by simp)).trans (show _ = some (.slice none 0 0) from by simp [go_sem])
  have q0 := (HB2.out.frozen (p := ⟨w.heap.size, 0, none⟩) (by simp)).trans (show _ = false from by simp [go_sem])
  have q1 := (HB2.out.frozen (p := ⟨w.heap.size, 1, none⟩) (by simp)).trans (show _ = false from by simp [go_sem])
  have q2 := (HB2.out.frozen (p := ⟨w.heap.size, 2, none⟩) (by simp)).trans (show _ = false from by simp [go_sem])
  have hz : w.heap.size < w2.heap.size := by have := HB2.out.size; simp at this; omega
  have HB := Lib.hid (HB0.out.trans (HB2.out.mono (by omega)))
  go_wp2
  refine bodyPost_ret (v := .agg #[.bool false, .slice none 0 0, .slice (some ⟨w2.heap.size, 0, none⟩) 1 1]) (by simp [results, Try.results145, go_sem, *]) rfl ?_
  refine ⟨none, 0, some ⟨w2.heap.size, 0, none⟩, 1, rfl, NumR.zero, ?_, (((HB.out.setCell (by simp) _).setCell (by simp) _).setCell (by simp) _).alloc (by simp; omega) _⟩
  have h := one_num (w := ((w2.setCell ⟨w.heap.size, 0, none⟩ (.bool false)).setCell ⟨w.heap.size, 1, none⟩ (.slice none 0 0)).setCell ⟨w.heap.size, 2, none⟩ (.slice (some ⟨w2.heap.size, 0, none⟩) 1 1)) (t := 22)
  simp only [World.size_setCell] at h
  exact h

set_option maxRecDepth 100000 in
set_option maxHeartbeats 1000000 in
theorem frac_pos (s : Bool) (A1 A2 : Option Addr) (n cp1 m cp2 N D : Nat) (e : Int) (w : World) (hn : n ≤ 1099511627776) (hm : m ≤ 1099511627776) (he : -35184372088832 ≤ e) (he2 : e ≤ 35184372088832) (hN : N ≠ 0) (hD : D ≠ 0) (h : NumR w w.heap.size A1 n N) (h2 : NumR w w.heap.size A2 m D) :
    Calls Try.prog 145 #[.bool s, .slice A1 n cp1, .slice A2 m cp2, .int .i64 e] w fun en w' => RatP w s (fracN N D e) (fracD N D e) en w' := by
  have HN := Lib.hid h; have HM := Lib.hid h2; clear h h2
  have wn := HN.out.words; have wm := HM.out.words
  have tn := tz_lt hN; have tm := tz_lt hD
  have tn2 : tz N < 32 * wN N := by have := wN_len N; omega
  have tm2 : tz D < 32 * wN D := by have := wN_len D; omega
  have hnn := wN_pos hN; have hmm := wN_pos hD
  have z1 : ((wN N : Int) == 0) = false := by simp; omega
  have HFN : Hid (fracN N D e = N / 2 ^ tz N * 2 ^ (fracE N D e).toNat) := Lib.hid (by unfold fracN; rw [if_neg hN])
  have HFD : Hid (fracD N D e = D / 2 ^ tz D * 2 ^ (-fracE N D e).toNat) := Lib.hid (by unfold fracD; rw [if_neg hN])
  have hE : fracE N D e = e + (tz N : Int) - (tz D : Int) := rfl
  have hEb : fracE N D e ≤ 70368744177696 ∧ -fracE N D e ≤ 70368744177696 := by rw [hE]; omega
  have hN2 : N / 2 ^ tz N ≠ 0 := by
    have h1 : 2 ^ tz N ≤ N := lt_lenN.1 tn
    exact Nat.ne_of_gt (Nat.div_pos h1 (Nat.two_pow_pos _))
  have hD2 : D / 2 ^ tz D ≠ 0 := by
    have h1 : 2 ^ tz D ≤ D := lt_lenN.1 tm
    exact Nat.ne_of_gt (Nat.div_pos h1 (Nat.two_pow_pos _))
  have wn2 : wN (N / 2 ^ tz N) ≤ wN N := wN_mono (Nat.div_le_self _ _)
  have wm2 : wN (D / 2 ^ tz D) ≤ wN D := wN_mono (Nat.div_le_self _ _)
  have HN0 := Lib.hid hN; have HD0 := Lib.hid hD; have HNp := Lib.hid hN2; have HDp := Lib.hid hD2
  generalize fracE N D e = E at *
  generalize fracN N D e = FN at *
  generalize fracD N D e = FD at *
  have hEx : ∃ x, e + (tz N : Int) = x ∧ x - (tz D : Int) = E := ⟨_, rfl, hE.symm⟩
  obtain ⟨x, hx1, hx2⟩ := hEx
  clear hN hD hN2 hD2 hE
  rcases Int.lt_trichotomy E 0 with hlt | heq | hgt
  · obtain ⟨k, rfl⟩ : ∃ k : Nat, E = -(k : Int) := ⟨(-E).toNat, by omega⟩
    have hk : Hid (N / 2 ^ tz N = FN ∧ D / 2 ^ tz D * 2 ^ k = FD) := Lib.hid ⟨by rw [HFN.out, show (-(k : Int)).toNat = 0 from by omega]; simp, by rw [HFD.out]; simp⟩
    have hkb : k ≤ 70368744177696 := by omega
    rw [hk.out.1] at HNp wn2
    clear hEb
    go_enter Try.func145, Try.ntmps145
    go_wp2_with fail
    have HB0 : Hid (Below w.heap.size w (w.alloc (.cells #[.bool false, .slice none 0 0, .slice none 0 0] 108))) := Lib.hid ((Below.refl _ _).alloc (Nat.le_refl _) _)
    refine (norm_any A1 n cp1 N _ (by omega) (HN.out.next HB0.out)).mono ?_
    rintro e1 w1 ⟨B1, q1, rfl, p1, p2, p3⟩
    have HM1 := Lib.hid ((HM.out.next HB0.out).next p3)
    have HB1 : Hid (Below (w.heap.size + 1) (w.alloc (.cells #[.bool false, .slice none 0 0, .slice none 0 0] 108)) w1) := Lib.hid (p3.mono (by simp))
    have hs1 : w.heap.size + 1 ≤ w1.heap.size := by have := p3.size; simpa using this
    have HN1 := Lib.hid p1
    clear p1 p2 p3
    go_wp2_with fail
    refine (norm_any A2 m cp2 D _ (by omega) HM1.out).mono ?_
    rintro e2 w2 ⟨B2, q2, rfl, p1, p2, p3⟩
    have HN2 := Lib.hid (HN1.out.next p3)
    have HM2 := Lib.hid p1
    have HB2 : Hid (Below (w.heap.size + 1) (w.alloc (.cells #[.bool false, .slice none 0 0, .slice none 0 0] 108)) w2) := Lib.hid (HB1.out.trans (p3.mono hs1))
    have hs2 : w.heap.size + 1 ≤ w2.heap.size := Nat.le_trans hs1 p3.size
    clear p1 p2 p3
    go_wp2_with fail
    refine (zeros_any B1 _ q1 N _ (by omega) HN0.out HN2.out).mono ?_
    rintro e3 w' ⟨rfl, rfl⟩
    go_wp2_with fail
    refine (right_any B1 _ q1 N (tz N) _ (by omega) (by omega) HN2.out).mono ?_
    rintro e4 w3 ⟨B3, q3, lb, rfl, p1, p2, p3⟩
    have HN3 := Lib.hid p1
    have HM3 := Lib.hid (HM2.out.next p3)
    have HB3 : Hid (Below (w.heap.size + 1) (w.alloc (.cells #[.bool false, .slice none 0 0, .slice none 0 0] 108)) w3) := Lib.hid (HB2.out.trans (p3.mono hs2))
    have hs3 : w.heap.size + 1 ≤ w3.heap.size := Nat.le_trans hs2 p3.size
    clear p1 p2 p3
    go_wp2_with fail
    refine (zeros_any B2 _ q2 D _ (by omega) HD0.out HM3.out).mono ?_
    rintro e5 w' ⟨rfl, rfl⟩
    go_wp2_with fail
    refine (right_any B2 _ q2 D (tz D) _ (by omega) (by omega) HM3.out).mono ?_
    rintro e6 w4 ⟨B4, q4, lb', rfl, p1, p2, p3⟩
    have HN4 := Lib.hid (HN3.out.next p3)
    have HM4 := Lib.hid p1
    have HS4 := Lib.hid p2
    have HB4 : Hid (Below (w.heap.size + 1) (w.alloc (.cells #[.bool false, .slice none 0 0, .slice none 0 0] 108)) w4) := Lib.hid (HB3.out.trans (p3.mono hs3))
    have hs4 : w.heap.size + 1 ≤ w4.heap.size := Nat.le_trans hs3 p3.size
    clear p1 p2 p3
    rw [hk.out.1] at HN4
    go_wp2_with fail
    refine (left_any B4 _ q4 (D / 2 ^ tz D) k _ (by omega) (by omega) HM4.out).mono ?_
    rintro e7 w5 ⟨B5, q5, rfl, p1, p2, p3⟩
    rw [hk.out.2] at p1 p2 ⊢
    have HN5 := Lib.hid (HN4.out.next p3)
    have HM5 := Lib.hid p1
    have HB5 : Hid (Below (w.heap.size + 1) (w.alloc (.cells #[.bool false, .slice none 0 0, .slice none 0 0] 108)) w5) := Lib.hid (HB4.out.trans (p3.mono hs4))
    have hs5 : w.heap.size + 1 ≤ w5.heap.size := Nat.le_trans hs4 p3.size
    clear p1 p2 p3
    have r0 := (HB5.out.cell (p := ⟨w.heap.size, 0, none⟩) (by simp)).trans (show _ = some (.bool false) from by simp [go_sem])
    have r1 := (HB5.out.cell (p := ⟨w.heap.size, 1, none⟩) (by simp)).trans (show _ = some (.slice none 0 0) from by simp [go_sem])
    have r2 := (HB5.out.cell (p := ⟨w.heap.size, 2, none⟩) (by simp)).trans (show _ = some (.slice none 0 0) from by simp [go_sem])
    have x0 := (HB5.out.frozen (p := ⟨w.heap.size, 0, none⟩) (by simp)).trans (show _ = false from by simp [go_sem])
    have x1 := (HB5.out.frozen (p := ⟨w.heap.size, 1, none⟩) (by simp)).trans (show _ = false from by simp [go_sem])
    have x2 := (HB5.out.frozen (p := ⟨w.heap.size, 2, none⟩) (by simp)).trans (show _ = false from by simp [go_sem])
    have hz : w.heap.size < w5.heap.size := by omega
    rw [hk.out.1]
    go_wp2
    refine bodyPost_ret (v := .agg #[.bool s, .slice B3 (wN FN) q3, .slice B5 (wN FD) q5]) (by simp [results, Try.results145, go_sem, *]) rfl ?_
    exact ratP_of HN5.out HM5.out (HN5.out.off HB5.out) (HM5.out.off HB5.out) (Nat.le_refl _) (HB0.out.trans (HB5.out.mono (by omega)))
  · subst heq
    have hk : Hid (N / 2 ^ tz N = FN ∧ D / 2 ^ tz D = FD) := Lib.hid ⟨by rw [HFN.out]; simp, by rw [HFD.out]; simp⟩
    clear hEb
    go_enter Try.func145, Try.ntmps145
    go_wp2_with fail
    have HB0 : Hid (Below w.heap.size w (w.alloc (.cells #[.bool false, .slice none 0 0, .slice none 0 0] 108))) := Lib.hid ((Below.refl _ _).alloc (Nat.le_refl _) _)
    refine (norm_any A1 n cp1 N _ (by omega) (HN.out.next HB0.out)).mono ?_
    rintro e1 w1 ⟨B1, q1, rfl, p1, p2, p3⟩
    have HM1 := Lib.hid ((HM.out.next HB0.out).next p3)
    have HB1 : Hid (Below (w.heap.size + 1) (w.alloc (.cells #[.bool false, .slice none 0 0, .slice none 0 0] 108)) w1) := Lib.hid (p3.mono (by simp))
    have hs1 : w.heap.size + 1 ≤ w1.heap.size := by have := p3.size; simpa using this
    have HN1 := Lib.hid p1
    clear p1 p2 p3
    go_wp2_with fail
    refine (norm_any A2 m cp2 D _ (by omega) HM1.out).mono ?_
    rintro e2 w2 ⟨B2, q2, rfl, p1, p2, p3⟩
    have HN2 := Lib.hid (HN1.out.next p3)
    have HM2 := Lib.hid p1
    have HB2 : Hid (Below (w.heap.size + 1) (w.alloc (.cells #[.bool false, .slice none 0 0, .slice none 0 0] 108)) w2) := Lib.hid (HB1.out.trans (p3.mono hs1))
    have hs2 : w.heap.size + 1 ≤ w2.heap.size := Nat.le_trans hs1 p3.size
    clear p1 p2 p3
    go_wp2_with fail
    refine (zeros_any B1 _ q1 N _ (by omega) HN0.out HN2.out).mono ?_
    rintro e3 w' ⟨rfl, rfl⟩
    go_wp2_with fail
    refine (right_any B1 _ q1 N (tz N) _ (by omega) (by omega) HN2.out).mono ?_
    rintro e4 w3 ⟨B3, q3, lb, rfl, p1, p2, p3⟩
    have HN3 := Lib.hid p1
    have HM3 := Lib.hid (HM2.out.next p3)
    have HB3 : Hid (Below (w.heap.size + 1) (w.alloc (.cells #[.bool false, .slice none 0 0, .slice none 0 0] 108)) w3) := Lib.hid (HB2.out.trans (p3.mono hs2))
    have hs3 : w.heap.size + 1 ≤ w3.heap.size := Nat.le_trans hs2 p3.size
    clear p1 p2 p3
    go_wp2_with fail
    refine (zeros_any B2 _ q2 D _ (by omega) HD0.out HM3.out).mono ?_
    rintro e5 w' ⟨rfl, rfl⟩
    go_wp2_with fail
    refine (right_any B2 _ q2 D (tz D) _ (by omega) (by omega) HM3.out).mono ?_
    rintro e6 w4 ⟨B4, q4, lb', rfl, p1, p2, p3⟩
    have HN4 := Lib.hid (HN3.out.next p3)
    have HM4 := Lib.hid p1
    have HS4 := Lib.hid p2
    have HB4 : Hid (Below (w.heap.size + 1) (w.alloc (.cells #[.bool false, .slice none 0 0, .slice none 0 0] 108)) w4) := Lib.hid (HB3.out.trans (p3.mono hs3))
    have hs4 : w.heap.size + 1 ≤ w4.heap.size := Nat.le_trans hs3 p3.size
    clear p1 p2 p3
    rw [hk.out.1] at HN4 ⊢
    rw [hk.out.2] at HM4 ⊢
    have r0 := (HB4.out.cell (p := ⟨w.heap.size, 0, none⟩) (by simp)).trans (show _ = some (.bool false) from by simp [go_sem])
    have r1 := (HB4.out.cell (p := ⟨w.heap.size, 1, none⟩) (by simp)).trans (show _ = some (.slice none 0 0) from by simp [go_sem])
    have r2 := (HB4.out.cell (p := ⟨w.heap.size, 2, none⟩) (by simp)).trans (show _ = some (.slice none 0 0) from by simp [go_sem])
    have x0 := (HB4.out.frozen (p := ⟨w.heap.size, 0, none⟩) (by simp)).trans (show _ = false from by simp [go_sem])
    have x1 := (HB4.out.frozen (p := ⟨w.heap.size, 1, none⟩) (by simp)).trans (show _ = false from by simp [go_sem])
    have x2 := (HB4.out.frozen (p := ⟨w.heap.size, 2, none⟩) (by simp)).trans (show _ = false from by simp [go_sem])
    have hz : w.heap.size < w4.heap.size := by omega
    go_wp2
    refine bodyPost_ret (v := .agg #[.bool s, .slice B3 (wN FN) q3, .slice B4 (wN FD) q4]) (by simp [results, Try.results145, go_sem, *]) rfl ?_
    exact ratP_of HN4.out HM4.out (HN4.out.off HB4.out) (HM4.out.off HB4.out) (Nat.le_refl _) (HB0.out.trans (HB4.out.mono (by omega)))
  · obtain ⟨k, rfl⟩ : ∃ k : Nat, E = (k : Int) := ⟨E.toNat, by omega⟩
    have hk : Hid (N / 2 ^ tz N * 2 ^ k = FN ∧ D / 2 ^ tz D = FD) := Lib.hid ⟨by rw [HFN.out]; simp, by rw [HFD.out, show (-(k : Int)).toNat = 0 from by omega]; simp⟩
    have hkb : k ≤ 70368744177696 := by omega
    rw [hk.out.2] at HDp wm2
    clear hEb
    go_enter Try.func145, Try.ntmps145
    go_wp2_with fail
    have HB0 : Hid (Below w.heap.size w (w.alloc (.cells #[.bool false, .slice none 0 0, .slice none 0 0] 108))) := Lib.hid ((Below.refl _ _).alloc (Nat.le_refl _) _)
    refine (norm_any A1 n cp1 N _ (by omega) (HN.out.next HB0.out)).mono ?_
    rintro e1 w1 ⟨B1, q1, rfl, p1, p2, p3⟩
    have HM1 := Lib.hid ((HM.out.next HB0.out).next p3)
    have HB1 : Hid (Below (w.heap.size + 1) (w.alloc (.cells #[.bool false, .slice none 0 0, .slice none 0 0] 108)) w1) := Lib.hid (p3.mono (by simp))
    have hs1 : w.heap.size + 1 ≤ w1.heap.size := by have := p3.size; simpa using this
    have HN1 := Lib.hid p1
    clear p1 p2 p3
    go_wp2_with fail
    refine (norm_any A2 m cp2 D _ (by omega) HM1.out).mono ?_
    rintro e2 w2 ⟨B2, q2, rfl, p1, p2, p3⟩
    have HN2 := Lib.hid (HN1.out.next p3)
    have HM2 := Lib.hid p1
    have HB2 : Hid (Below (w.heap.size + 1) (w.alloc (.cells #[.bool false, .slice none 0 0, .slice none 0 0] 108)) w2) := Lib.hid (HB1.out.trans (p3.mono hs1))
    have hs2 : w.heap.size + 1 ≤ w2.heap.size := Nat.le_trans hs1 p3.size
    clear p1 p2 p3
    go_wp2_with fail
    refine (zeros_any B1 _ q1 N _ (by omega) HN0.out HN2.out).mono ?_
    rintro e3 w' ⟨rfl, rfl⟩
    go_wp2_with fail
    refine (right_any B1 _ q1 N (tz N) _ (by omega) (by omega) HN2.out).mono ?_
    rintro e4 w3 ⟨B3, q3, lb, rfl, p1, p2, p3⟩
    have HN3 := Lib.hid p1
    have HM3 := Lib.hid (HM2.out.next p3)
    have HB3 : Hid (Below (w.heap.size + 1) (w.alloc (.cells #[.bool false, .slice none 0 0, .slice none 0 0] 108)) w3) := Lib.hid (HB2.out.trans (p3.mono hs2))
    have hs3 : w.heap.size + 1 ≤ w3.heap.size := Nat.le_trans hs2 p3.size
    clear p1 p2 p3
    go_wp2_with fail
    refine (zeros_any B2 _ q2 D _ (by omega) HD0.out HM3.out).mono ?_
    rintro e5 w' ⟨rfl, rfl⟩
    go_wp2_with fail
    refine (right_any B2 _ q2 D (tz D) _ (by omega) (by omega) HM3.out).mono ?_
    rintro e6 w4 ⟨B4, q4, lb', rfl, p1, p2, p3⟩
    have HN4 := Lib.hid (HN3.out.next p3)
    have HM4 := Lib.hid p1
    have HS4 := Lib.hid p2
    have HB4 : Hid (Below (w.heap.size + 1) (w.alloc (.cells #[.bool false, .slice none 0 0, .slice none 0 0] 108)) w4) := Lib.hid (HB3.out.trans (p3.mono hs3))
    have hs4 : w.heap.size + 1 ≤ w4.heap.size := Nat.le_trans hs3 p3.size
    clear p1 p2 p3
    rw [hk.out.2] at HM4
    go_wp2_with fail
    refine (left_any B3 _ q3 (N / 2 ^ tz N) k _ (by omega) (by omega) HN4.out).mono ?_
    rintro e7 w5 ⟨B5, q5, rfl, p1, p2, p3⟩
    rw [hk.out.1] at p1 p2 ⊢
    have HM5 := Lib.hid (HM4.out.next p3)
    have HN5 := Lib.hid p1
    have HB5 : Hid (Below (w.heap.size + 1) (w.alloc (.cells #[.bool false, .slice none 0 0, .slice none 0 0] 108)) w5) := Lib.hid (HB4.out.trans (p3.mono hs4))
    have hs5 : w.heap.size + 1 ≤ w5.heap.size := Nat.le_trans hs4 p3.size
    clear p1 p2 p3
    have r0 := (HB5.out.cell (p := ⟨w.heap.size, 0, none⟩) (by simp)).trans (show _ = some (.bool false) from by simp [go_sem])
    have r1 := (HB5.out.cell (p := ⟨w.heap.size, 1, none⟩) (by simp)).trans (show _ = some (.slice none 0 0) from by simp [go_sem])
    have r2 := (HB5.out.cell (p := ⟨w.heap.size, 2, none⟩) (by simp)).trans (show _ = some (.slice none 0 0) from by simp [go_sem])
    have x0 := (HB5.out.frozen (p := ⟨w.heap.size, 0, none⟩) (by simp)).trans (show _ = false from by simp [go_sem])
    have x1 := (HB5.out.frozen (p := ⟨w.heap.size, 1, none⟩) (by simp)).trans (show _ = false from by simp [go_sem])
    have x2 := (HB5.out.frozen (p := ⟨w.heap.size, 2, none⟩) (by simp)).trans (show _ = false from by simp [go_sem])
    have hz : w.heap.size < w5.heap.size := by omega
    rw [hk.out.2]
    go_wp2
    refine bodyPost_ret (v := .agg #[.bool s, .slice B5 (wN FN) q5, .slice B4 (wN FD) q4]) (by simp [results, Try.results145, go_sem, *]) rfl ?_
    exact ratP_of HN5.out HM5.out (HN5.out.off HB5.out) (HM5.out.off HB5.out) (Nat.le_refl _) (HB0.out.trans (HB5.out.mono (by omega)))

end Go.Proofs.Ytamaeggkpdgaiaa
