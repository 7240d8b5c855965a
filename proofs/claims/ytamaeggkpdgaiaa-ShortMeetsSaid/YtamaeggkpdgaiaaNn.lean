/- The walks of the reference's ratios: FromBits, Int of 0, RSign. -/
import Derived.Test.YtamaeggkpdgaiaaNm
import Derived.Test.YtamaeggkpdgaiaaFe
namespace Go.Proofs.Ytamaeggkpdgaiaa
open Go.RowKit

/-- The parts of a pattern of binary64. -/
def expB (b : Nat) : Nat := b / 4503599627370496 % 2048
def manB (b : Nat) : Nat := b % 4503599627370496 + (if expB b = 0 then 0 else 4503599627370496)
def shB (b : Nat) : Int := ((expB b - 1 : Nat) : Int) - 1074
def sgnB (b : Nat) : Bool := (b : Int) / 9223372036854775808 == 1
/-- The ratio of a pattern of binary64: below 0?, numerator, denominator. -/
def ratS (b : Nat) : Bool := if manB b = 0 then false else sgnB b
def ratN (b : Nat) : Nat := fracN (manB b) 1 (shB b)
def ratD (b : Nat) : Nat := fracD (manB b) 1 (shB b)

theorem low52 {v : Nat} (hv : v < 18446744073709551616) : bits .and .u64 (v : Int) 4503599627370495 = ((v % 4503599627370496 : Nat) : Int) := by
  have h := u64_and_nat v 4503599627370495 hv (by decide)
  have e : ((4503599627370495 : Nat) : Int) = 4503599627370495 := rfl
  rw [e] at h
  rw [h, show (4503599627370495 : Nat) = 2 ^ 52 - 1 from by decide, Nat.and_two_pow_sub_one_eq_mod]

theorem frac_one (s : Bool) (A1 : Option Addr) (n cp1 g N : Nat) (e : Int) (w : World) (hn : n ≤ 1099511627776) (he : -35184372088832 ≤ e) (he2 : e ≤ 35184372088832) (h : NumR w w.heap.size A1 n N) (h2 : NumR w w.heap.size (some ⟨g, 0, none⟩) 1 1) :
    Calls Try.prog 145 #[.bool s, .slice A1 n cp1, .slice (some ⟨g, 0, none⟩) 1 1, .int .i64 e] w fun en w' => RatP w (if N = 0 then false else s) (fracN N 1 e) (fracD N 1 e) en w' := by
  by_cases h0 : N = 0
  · subst h0
    rw [if_pos rfl]
    exact frac_zero s A1 _ n cp1 1 1 1 e w (by omega) (by omega) h h2
  · rw [if_neg h0]
    exact frac_pos s A1 _ n cp1 1 1 N 1 e w hn (by omega) he he2 h0 (by decide) h h2

set_option maxRecDepth 100000 in
set_option maxHeartbeats 1000000 in
theorem fromBits_any (b : Nat) (hb : W64 b) (w : World) :
    Calls Try.prog 113 #[.int .u64 (b : Int)] w fun e w' => RatP w (ratS b) (ratN b) (ratD b) e w' := by
  have e1 := exp64 hb
  have e2 := low52 (v := b) hb
  have hx : b / 4503599627370496 % 2048 = expB b := rfl
  rw [hx] at e1
  have hxl : expB b < 2048 := Nat.mod_lt _ (by decide)
  have hsg : ((b : Int) / 9223372036854775808 == 1) = sgnB b := rfl
  have hfl : b % 4503599627370496 < 4503599627370496 := Nat.mod_lt _ (by decide)
  clear hx
  by_cases h0 : expB b = 0
  · have hman : manB b = b % 4503599627370496 := by unfold manB; rw [if_pos h0]; rfl
    have hsh : shB b = -1074 := by unfold shB; rw [h0]; rfl
    rw [h0] at e1
    have e1' : bits .and .u64 ((b : Int) / 4503599627370496) 2047 = 0 := by simpa using e1
    generalize b % 4503599627370496 = f at *
    generalize hsgg : sgnB b = sg at *
    have HF : Hid (f < 18446744073709551616) := Lib.hid (by omega)
    have hwf : Hid (wN f ≤ 2) := Lib.hid (wN_le.2 (Nat.lt_of_lt_of_le hfl (by decide)))
    have HMan := Lib.hid hman; have HSh := Lib.hid hsh; have HSg := Lib.hid hsgg
    clear hman hsh hsgg h0 e1 hfl hb hxl
    go_enter Try.func113, Try.ntmps113
    go_wp2_with fail
    have HB0 : Hid (Below w.heap.size w (w.alloc (.cells #[.bool false, .slice none 0 0, .slice none 0 0] 108))) := Lib.hid ((Below.refl _ _).alloc (Nat.le_refl _) _)
    refine (small_any f HF.out _).mono ?_
    rintro e1 w1 ⟨B1, q1, rfl, p1, p2, p3⟩
    have HB1 : Hid (Below (w.heap.size + 1) (w.alloc (.cells #[.bool false, .slice none 0 0, .slice none 0 0] 108)) (w1.alloc (.cells #[.int .u32 1] 22))) := Lib.hid ((p3.mono (by simp)).alloc (by have := p3.size; simpa using this) _)
    have hs1 : w.heap.size + 1 ≤ w1.heap.size := by have := p3.size; simpa using this
    have HN1 := Lib.hid (p1.next ((Below.refl _ w1).alloc (Nat.le_refl _) (.cells #[.int .u32 1] 22)))
    clear p1 p2 p3
    go_wp2_with fail
    refine (frac_one sg B1 _ q1 w1.heap.size f _ _ (by have := hwf.out; omega) (by omega) (by omega) HN1.out one_num).mono ?_
    rintro e2 w2 ⟨B2, q2, B3, q3, rfl, p1, p2, p3⟩
    have HB2 : Hid (Below (w.heap.size + 1) (w.alloc (.cells #[.bool false, .slice none 0 0, .slice none 0 0] 108)) w2) := Lib.hid (HB1.out.trans (p3.mono (by simp; omega)))
    have hs2 : w.heap.size + 1 ≤ w2.heap.size := by have := p3.size; simp at this; omega
    have HN2 := Lib.hid p1
    have HM2 := Lib.hid p2
    clear p1 p2 p3
    have r0 := (HB2.out.cell (p := ⟨w.heap.size, 0, none⟩) (by simp)).trans (show _ = some (.bool false) from by simp [go_sem])
    have r1 := (HB2.out.cell (p := ⟨w.heap.size, 1, none⟩) (by simp)).trans (show _ = some (.slice none 0 0) from by simp [go_sem])
    have r2 := (HB2.out.cell (p := ⟨w.heap.size, 2, none⟩) (by simp)).trans (show _ = some (.slice none 0 0) from by simp [go_sem])
    have x0 := (HB2.out.frozen (p := ⟨w.heap.size, 0, none⟩) (by simp)).trans (show _ = false from by simp [go_sem])
    have x1 := (HB2.out.frozen (p := ⟨w.heap.size, 1, none⟩) (by simp)).trans (show _ = false from by simp [go_sem])
    have x2 := (HB2.out.frozen (p := ⟨w.heap.size, 2, none⟩) (by simp)).trans (show _ = false from by simp [go_sem])
    have hz : w.heap.size < w2.heap.size := by omega
    have hnow : Hid ((if f = 0 then false else sg) = ratS b ∧ fracN f 1 (-1074) = ratN b ∧ fracD f 1 (-1074) = ratD b) := Lib.hid ⟨by unfold ratS; rw [HMan.out, HSg.out], by unfold ratN; rw [HMan.out, HSh.out], by unfold ratD; rw [HMan.out, HSh.out]⟩
    rw [hnow.out.2.1] at HN2
    rw [hnow.out.2.2] at HM2
    rw [hnow.out.1, hnow.out.2.1, hnow.out.2.2]
    generalize hS : ratS b = S at *
    generalize hFN : ratN b = FN at *
    generalize hFD : ratD b = FD at *
    have HS := Lib.hid hS; have HFN := Lib.hid hFN; have HFD := Lib.hid hFD; clear hS hFN hFD
    go_wp2
    refine bodyPost_ret (v := .agg #[.bool S, .slice B2 (wN FN) q2, .slice B3 (wN FD) q3]) (by simp [results, Try.results113, go_sem, *]) rfl ?_
    rw [HS.out, HFN.out, HFD.out]
    exact ratP_of HN2.out HM2.out (HN2.out.off HB2.out) (HM2.out.off HB2.out) (Nat.le_refl _) (HB0.out.trans (HB2.out.mono (by omega)))
  · have hman : manB b = b % 4503599627370496 + 4503599627370496 := by unfold manB; rw [if_neg h0]
    obtain ⟨y, hy⟩ : ∃ y, expB b = y + 1 := ⟨expB b - 1, by omega⟩
    have hsh : shB b = (y : Int) - 1074 := by unfold shB; rw [hy]; simp
    have hyl : y < 2047 := by omega
    rw [hy] at e1
    have hff : b % 4503599627370496 + 4503599627370496 < 9007199254740992 := by omega
    have e3 : IntKind.u64.wrap (((b % 4503599627370496 : Nat) : Int) + 4503599627370496) = ((b % 4503599627370496 + 4503599627370496 : Nat) : Int) := by
      rw [show ((b % 4503599627370496 + 4503599627370496 : Nat) : Int) = ((b % 4503599627370496 : Nat) : Int) + 4503599627370496 from by omega]
      exact IntWalk.u64_in _ ⟨by omega, by omega⟩
    obtain ⟨f, hf⟩ : ∃ f, f = b % 4503599627370496 + 4503599627370496 := ⟨_, rfl⟩
    rw [← hf] at hman hff e3
    generalize hsgg : sgnB b = sg at *
    have HF : Hid (f < 18446744073709551616) := Lib.hid (by omega)
    have hwf : Hid (wN f ≤ 2) := Lib.hid (wN_le.2 (Nat.lt_of_lt_of_le hff (by decide)))
    have HMan := Lib.hid hman; have HSh := Lib.hid hsh; have HSg := Lib.hid hsgg
    clear hf
    generalize b % 4503599627370496 = fr at *
    have e1' : bits .and .u64 ((b : Int) / 4503599627370496) 2047 = (y : Int) + 1 := by rw [e1]; simp
    clear hman hsh hsgg h0 e1 hfl hb hxl hff hy
    go_enter Try.func113, Try.ntmps113
    go_wp2_with fail
    have HB0 : Hid (Below w.heap.size w (w.alloc (.cells #[.bool false, .slice none 0 0, .slice none 0 0] 108))) := Lib.hid ((Below.refl _ _).alloc (Nat.le_refl _) _)
    refine (small_any f HF.out _).mono ?_
    rintro e1 w1 ⟨B1, q1, rfl, p1, p2, p3⟩
    have HB1 : Hid (Below (w.heap.size + 1) (w.alloc (.cells #[.bool false, .slice none 0 0, .slice none 0 0] 108)) (w1.alloc (.cells #[.int .u32 1] 22))) := Lib.hid ((p3.mono (by simp)).alloc (by have := p3.size; simpa using this) _)
    have hs1 : w.heap.size + 1 ≤ w1.heap.size := by have := p3.size; simpa using this
    have HN1 := Lib.hid (p1.next ((Below.refl _ w1).alloc (Nat.le_refl _) (.cells #[.int .u32 1] 22)))
    clear p1 p2 p3
    go_wp2_with fail
    refine (frac_one sg B1 _ q1 w1.heap.size f _ _ (by have := hwf.out; omega) (by omega) (by omega) HN1.out one_num).mono ?_
    rintro e2 w2 ⟨B2, q2, B3, q3, rfl, p1, p2, p3⟩
    have HB2 : Hid (Below (w.heap.size + 1) (w.alloc (.cells #[.bool false, .slice none 0 0, .slice none 0 0] 108)) w2) := Lib.hid (HB1.out.trans (p3.mono (by simp; omega)))
    have hs2 : w.heap.size + 1 ≤ w2.heap.size := by have := p3.size; simp at this; omega
    have HN2 := Lib.hid p1
    have HM2 := Lib.hid p2
    clear p1 p2 p3
    have r0 := (HB2.out.cell (p := ⟨w.heap.size, 0, none⟩) (by simp)).trans (show _ = some (.bool false) from by simp [go_sem])
    have r1 := (HB2.out.cell (p := ⟨w.heap.size, 1, none⟩) (by simp)).trans (show _ = some (.slice none 0 0) from by simp [go_sem])
    have r2 := (HB2.out.cell (p := ⟨w.heap.size, 2, none⟩) (by simp)).trans (show _ = some (.slice none 0 0) from by simp [go_sem])
    have x0 := (HB2.out.frozen (p := ⟨w.heap.size, 0, none⟩) (by simp)).trans (show _ = false from by simp [go_sem])
    have x1 := (HB2.out.frozen (p := ⟨w.heap.size, 1, none⟩) (by simp)).trans (show _ = false from by simp [go_sem])
    have x2 := (HB2.out.frozen (p := ⟨w.heap.size, 2, none⟩) (by simp)).trans (show _ = false from by simp [go_sem])
    have hz : w.heap.size < w2.heap.size := by omega
    have hnow : Hid ((if f = 0 then false else sg) = ratS b ∧ fracN f 1 ((y : Int) - 1074) = ratN b ∧ fracD f 1 ((y : Int) - 1074) = ratD b) := Lib.hid ⟨by unfold ratS; rw [HMan.out, HSg.out], by unfold ratN; rw [HMan.out, HSh.out], by unfold ratD; rw [HMan.out, HSh.out]⟩
    rw [hnow.out.2.1] at HN2
    rw [hnow.out.2.2] at HM2
    rw [hnow.out.1, hnow.out.2.1, hnow.out.2.2]
    generalize hS : ratS b = S at *
    generalize hFN : ratN b = FN at *
    generalize hFD : ratD b = FD at *
    have HS := Lib.hid hS; have HFN := Lib.hid hFN; have HFD := Lib.hid hFD; clear hS hFN hFD
    go_wp2
    refine bodyPost_ret (v := .agg #[.bool S, .slice B2 (wN FN) q2, .slice B3 (wN FD) q3]) (by simp [results, Try.results113, go_sem, *]) rfl ?_
    rw [HS.out, HFN.out, HFD.out]
    exact ratP_of HN2.out HM2.out (HN2.out.off HB2.out) (HM2.out.off HB2.out) (Nat.le_refl _) (HB0.out.trans (HB2.out.mono (by omega)))

end Go.Proofs.Ytamaeggkpdgaiaa
