/- The walks of the reference's ratios: RSign, RCmp, Int of 0. -/
import Derived.Test.YtamaeggkpdgaiaaNn
import Derived.Deep.RegionHeld3
import Derived.Deep.DeepCutAuto
import Derived.Outline
namespace Go.Proofs.Ytamaeggkpdgaiaa
open Go.RowKit

/-- -1, 0, 1: the sign of a ratio. -/
def rsg (s : Bool) (N : Nat) : Int := if N = 0 then 0 else if s then -1 else 1

set_option maxRecDepth 100000 in
set_option maxHeartbeats 1000000 in
theorem rsign_any (s : Bool) (A1 A2 : Option Addr) (n cp1 m cp2 N : Nat) (w : World) (hn : n ≤ 17592186044416) (h : NumR w w.heap.size A1 n N) :
    Calls Try.prog 136 #[.agg #[.bool s, .slice A1 n cp1, .slice A2 m cp2]] w fun e w' => e = .returned (.int .i64 (rsg s N)) ∧ Below w.heap.size w w' := by
  have HN := Lib.hid h; clear h
  have HB0 : Hid (Below w.heap.size w (w.alloc (.cells #[.bool s, .slice A1 n cp1, .slice A2 m cp2] 108))) := Lib.hid ((Below.refl _ _).alloc (Nat.le_refl _) _)
  have hcase : ((wN N : Int) == 0) = decide (N = 0) := by
    by_cases h0 : N = 0
    · subst h0; rfl
    · have := wN_pos h0; simp [h0]; omega
  cases h0 : decide (N = 0)
  all_goals
    rw [h0] at hcase
    have HZ := Lib.hid h0; clear h0
    go_enter Try.func136, Try.ntmps136
    go_wp2_with fail
    refine (norm_any A1 n cp1 N _ (by omega) (HN.out.next HB0.out)).mono ?_
    rintro e1 w1 ⟨B1, q1, rfl, p1, p2, p3⟩
    have r0 := (p3.cell (p := ⟨w.heap.size, 0, none⟩) (by simp)).trans (show _ = some (.bool s) from by simp [go_sem])
    have HB1 := Lib.hid (below_then HB0.out p3)
    clear p1 p2 p3
    cases s
    all_goals
      go_wp2
      go_ret
      exact ⟨ret_int (by unfold rsg; have := HZ.out; simp at this; simp [this]), HB1.out⟩

/-- What RCmp answers. -/
def rcmpN (s1 : Bool) (N1 D1 : Nat) (s2 : Bool) (N2 D2 : Nat) : Int :=
  if rsg s1 N1 < rsg s2 N2 then -1 else if rsg s2 N2 < rsg s1 N1 then 1 else if rsg s1 N1 = 0 then 0 else if s1 then -cmpN (N1 * D2) (N2 * D1) else cmpN (N1 * D2) (N2 * D1)

set_option maxRecDepth 100000 in
set_option maxHeartbeats 2000000 in
theorem rcmp_any (s1 s2 : Bool) (A1 A2 A3 A4 : Option Addr) (n1 c1 n2 c2 n3 c3 n4 c4 N1 D1 N2 D2 : Nat) (w : World) (l1 : n1 ≤ 1099511627776) (l2 : n2 ≤ 1099511627776) (l3 : n3 ≤ 1099511627776) (l4 : n4 ≤ 1099511627776)
    (h1 : NumR w w.heap.size A1 n1 N1) (h2 : NumR w w.heap.size A2 n2 D1) (h3 : NumR w w.heap.size A3 n3 N2) (h4 : NumR w w.heap.size A4 n4 D2) :
    Calls Try.prog 152 #[.agg #[.bool s1, .slice A1 n1 c1, .slice A2 n2 c2], .agg #[.bool s2, .slice A3 n3 c3, .slice A4 n4 c4]] w fun e w' => e = .returned (.int .i64 (rcmpN s1 N1 D1 s2 N2 D2)) ∧ Below w.heap.size w w' := by
  have H1 := Lib.hid h1; have H2 := Lib.hid h2; have H3 := Lib.hid h3; have H4 := Lib.hid h4; clear h1 h2 h3 h4
  generalize hr1 : rsg s1 N1 = g1
  generalize hr2 : rsg s2 N2 = g2
  have HR1 := Lib.hid hr1; have HR2 := Lib.hid hr2; clear hr1 hr2
  have t1 : ∀ x : Int, x = x := fun _ => rfl
  clear t1
  rcases Int.lt_trichotomy g1 g2 with hlt | heq | hgt
  · skip
    go_enter Try.func152, Try.ntmps152
    go_wp2_with fail
    have HB0 : Hid (Below w.heap.size w ((w.alloc (.cells #[.bool s1, .slice A1 n1 c1, .slice A2 n2 c2] 108)).alloc (.cells #[.bool s2, .slice A3 n3 c3, .slice A4 n4 c4] 108))) := Lib.hid (((Below.refl _ _).alloc (Nat.le_refl _) _).alloc (by simp) _)
    refine (rsign_any s1 A1 A2 n1 c1 n2 c2 N1 _ (by omega) (H1.out.next HB0.out)).mono ?_
    rintro e1 w1 ⟨rfl, hb1⟩
    have HB1 : Hid (Below (w.heap.size + 2) ((w.alloc (.cells #[.bool s1, .slice A1 n1 c1, .slice A2 n2 c2] 108)).alloc (.cells #[.bool s2, .slice A3 n3 c3, .slice A4 n4 c4] 108)) w1) := Lib.hid (hb1.mono (by simp))
    have hs1 : w.heap.size + 2 ≤ w1.heap.size := by have := hb1.size; simpa using this
    clear hb1
    have CL : ∀ w' : World, Below (w.heap.size + 2) ((w.alloc (.cells #[.bool s1, .slice A1 n1 c1, .slice A2 n2 c2] 108)).alloc (.cells #[.bool s2, .slice A3 n3 c3, .slice A4 n4 c4] 108)) w' →
        w'.cell? ⟨w.heap.size, 0, none⟩ = some (.bool s1) ∧ w'.cell? ⟨w.heap.size, 1, none⟩ = some (.slice A1 n1 c1) ∧ w'.cell? ⟨w.heap.size, 2, none⟩ = some (.slice A2 n2 c2) ∧
        w'.cell? ⟨w.heap.size + 1, 0, none⟩ = some (.bool s2) ∧ w'.cell? ⟨w.heap.size + 1, 1, none⟩ = some (.slice A3 n3 c3) ∧ w'.cell? ⟨w.heap.size + 1, 2, none⟩ = some (.slice A4 n4 c4) := fun w' hb =>
      ⟨(hb.cell (p := ⟨_, _, none⟩) (by simp)).trans (by simp [go_sem]), (hb.cell (p := ⟨_, _, none⟩) (by simp)).trans (by simp [go_sem]), (hb.cell (p := ⟨_, _, none⟩) (by simp)).trans (by simp [go_sem]),
       (hb.cell (p := ⟨_, _, none⟩) (by simp)).trans (by simp [go_sem]), (hb.cell (p := ⟨_, _, none⟩) (by simp)).trans (by simp [go_sem]), (hb.cell (p := ⟨_, _, none⟩) (by simp)).trans (by simp [go_sem])⟩
    have HCL := Lib.hid CL
    have KS : ∀ w' : World, Below (w.heap.size + 2) ((w.alloc (.cells #[.bool s1, .slice A1 n1 c1, .slice A2 n2 c2] 108)).alloc (.cells #[.bool s2, .slice A3 n3 c3, .slice A4 n4 c4] 108)) w' → (Below (w.heap.size + 2) ((w.alloc (.cells #[.bool s1, .slice A1 n1 c1, .slice A2 n2 c2] 108)).alloc (.cells #[.bool s2, .slice A3 n3 c3, .slice A4 n4 c4] 108)) w' ∧ w'.cell? ⟨w.heap.size, 1, none⟩ = some (.slice A1 n1 c1) ∧ w'.cell? ⟨w.heap.size, 2, none⟩ = some (.slice A2 n2 c2) ∧ w'.cell? ⟨w.heap.size + 1, 1, none⟩ = some (.slice A3 n3 c3) ∧ w'.cell? ⟨w.heap.size + 1, 2, none⟩ = some (.slice A4 n4 c4)) := fun w' hb => ⟨hb, (CL w' hb).2.1, (CL w' hb).2.2.1, (CL w' hb).2.2.2.2.1, (CL w' hb).2.2.2.2.2⟩
    clear CL
    obtain ⟨d0, d1, d2, d3, d4, d5⟩ := HCL.out w1 HB1.out
    rw [HR1.out]
    go_wp2_with fail
    refine (rsign_any s2 A3 A4 n3 c3 n4 c4 N2 _ (by omega) (H3.out.next (HB0.out.trans (HB1.out.mono (by omega))))).mono ?_
    rintro e2 w2 ⟨rfl, hb2⟩
    have HB2 := Lib.hid (HB1.out.trans (hb2.mono hs1))
    have hs2 : w.heap.size + 2 ≤ w2.heap.size := Nat.le_trans hs1 hb2.size
    clear hb2 d0 d1 d2 d3 d4 d5
    rw [HR2.out]
    go_wp2
    go_ret
    exact ⟨ret_int (by unfold rcmpN; rw [HR1.out, HR2.out, if_pos hlt]), HB0.out.trans (HB2.out.mono (by omega))⟩
  · subst heq
    go_enter Try.func152, Try.ntmps152
    go_wp2_with fail
    have HB0 : Hid (Below w.heap.size w ((w.alloc (.cells #[.bool s1, .slice A1 n1 c1, .slice A2 n2 c2] 108)).alloc (.cells #[.bool s2, .slice A3 n3 c3, .slice A4 n4 c4] 108))) := Lib.hid (((Below.refl _ _).alloc (Nat.le_refl _) _).alloc (by simp) _)
    refine (rsign_any s1 A1 A2 n1 c1 n2 c2 N1 _ (by omega) (H1.out.next HB0.out)).mono ?_
    rintro e1 w1 ⟨rfl, hb1⟩
    have HB1 : Hid (Below (w.heap.size + 2) ((w.alloc (.cells #[.bool s1, .slice A1 n1 c1, .slice A2 n2 c2] 108)).alloc (.cells #[.bool s2, .slice A3 n3 c3, .slice A4 n4 c4] 108)) w1) := Lib.hid (hb1.mono (by simp))
    have hs1 : w.heap.size + 2 ≤ w1.heap.size := by have := hb1.size; simpa using this
    clear hb1
    have CL : ∀ w' : World, Below (w.heap.size + 2) ((w.alloc (.cells #[.bool s1, .slice A1 n1 c1, .slice A2 n2 c2] 108)).alloc (.cells #[.bool s2, .slice A3 n3 c3, .slice A4 n4 c4] 108)) w' →
        w'.cell? ⟨w.heap.size, 0, none⟩ = some (.bool s1) ∧ w'.cell? ⟨w.heap.size, 1, none⟩ = some (.slice A1 n1 c1) ∧ w'.cell? ⟨w.heap.size, 2, none⟩ = some (.slice A2 n2 c2) ∧
        w'.cell? ⟨w.heap.size + 1, 0, none⟩ = some (.bool s2) ∧ w'.cell? ⟨w.heap.size + 1, 1, none⟩ = some (.slice A3 n3 c3) ∧ w'.cell? ⟨w.heap.size + 1, 2, none⟩ = some (.slice A4 n4 c4) := fun w' hb =>
      ⟨(hb.cell (p := ⟨_, _, none⟩) (by simp)).trans (by simp [go_sem]), (hb.cell (p := ⟨_, _, none⟩) (by simp)).trans (by simp [go_sem]), (hb.cell (p := ⟨_, _, none⟩) (by simp)).trans (by simp [go_sem]),
       (hb.cell (p := ⟨_, _, none⟩) (by simp)).trans (by simp [go_sem]), (hb.cell (p := ⟨_, _, none⟩) (by simp)).trans (by simp [go_sem]), (hb.cell (p := ⟨_, _, none⟩) (by simp)).trans (by simp [go_sem])⟩
    have HCL := Lib.hid CL
    have KS : ∀ w' : World, Below (w.heap.size + 2) ((w.alloc (.cells #[.bool s1, .slice A1 n1 c1, .slice A2 n2 c2] 108)).alloc (.cells #[.bool s2, .slice A3 n3 c3, .slice A4 n4 c4] 108)) w' → (Below (w.heap.size + 2) ((w.alloc (.cells #[.bool s1, .slice A1 n1 c1, .slice A2 n2 c2] 108)).alloc (.cells #[.bool s2, .slice A3 n3 c3, .slice A4 n4 c4] 108)) w' ∧ w'.cell? ⟨w.heap.size, 1, none⟩ = some (.slice A1 n1 c1) ∧ w'.cell? ⟨w.heap.size, 2, none⟩ = some (.slice A2 n2 c2) ∧ w'.cell? ⟨w.heap.size + 1, 1, none⟩ = some (.slice A3 n3 c3) ∧ w'.cell? ⟨w.heap.size + 1, 2, none⟩ = some (.slice A4 n4 c4)) := fun w' hb => ⟨hb, (CL w' hb).2.1, (CL w' hb).2.2.1, (CL w' hb).2.2.2.2.1, (CL w' hb).2.2.2.2.2⟩
    clear CL
    obtain ⟨d0, d1, d2, d3, d4, d5⟩ := HCL.out w1 HB1.out
    rw [HR1.out]
    go_wp2_with fail
    refine (rsign_any s2 A3 A4 n3 c3 n4 c4 N2 _ (by omega) (H3.out.next (HB0.out.trans (HB1.out.mono (by omega))))).mono ?_
    rintro e2 w2 ⟨rfl, hb2⟩
    have HB2 := Lib.hid (HB1.out.trans (hb2.mono hs1))
    have hs2 : w.heap.size + 2 ≤ w2.heap.size := Nat.le_trans hs1 hb2.size
    clear hb2 d0 d1 d2 d3 d4 d5
    rw [HR2.out]
    go_upto_region 7 with (fail)
    go_cut [7] (fun v wc => v = .int .i64 (cmpN (N1 * D2) (N2 * D1)) ∧ Below (w.heap.size + 2) ((w.alloc (.cells #[.bool s1, .slice A1 n1 c1, .slice A2 n2 c2] 108)).alloc (.cells #[.bool s2, .slice A3 n3 c3, .slice A4 n4 c4] 108)) wc)
    case first =>
      have TB : Hid (Below (w.heap.size + 2) ((w.alloc (.cells #[.bool s1, .slice A1 n1 c1, .slice A2 n2 c2] 108)).alloc (.cells #[.bool s2, .slice A3 n3 c3, .slice A4 n4 c4] 108)) w2.drew) := Lib.hid HB2.out.drew
      have TB0 : Below w.heap.size w w2.drew := HB0.out.trans (TB.out.mono (by omega))
      have X1 := Lib.hid (H1.out.next TB0); have X2 := Lib.hid (H2.out.next TB0); have X3 := Lib.hid (H3.out.next TB0); have X4 := Lib.hid (H4.out.next TB0)
      have k1 : n1 ≤ 17592186044416 := by omega
      have k2 : n2 ≤ 17592186044416 := by omega
      have k3 : n3 ≤ 17592186044416 := by omega
      have k4 : n4 ≤ 17592186044416 := by omega
      have k5 : wN (N1 * D2) ≤ 140737488351232 := Nat.le_trans (wN_le.2 (by rw [Nat.pow_add]; exact Nat.mul_lt_mul'' X1.out.1 X4.out.1) : wN (N1 * D2) ≤ n1 + n4) (by omega)
      have k6 : wN (N2 * D1) ≤ 140737488351232 := Nat.le_trans (wN_le.2 (by rw [Nat.pow_add]; exact Nat.mul_lt_mul'' X3.out.1 X2.out.1) : wN (N2 * D1) ≤ n3 + n2) (by omega)
      clear TB0
      go_region_held3 (fun w' => (Below (w.heap.size + 2) ((w.alloc (.cells #[.bool s1, .slice A1 n1 c1, .slice A2 n2 c2] 108)).alloc (.cells #[.bool s2, .slice A3 n3 c3, .slice A4 n4 c4] 108)) w' ∧ w'.cell? ⟨w.heap.size, 1, none⟩ = some (.slice A1 n1 c1) ∧ w'.cell? ⟨w.heap.size, 2, none⟩ = some (.slice A2 n2 c2) ∧ w'.cell? ⟨w.heap.size + 1, 1, none⟩ = some (.slice A3 n3 c3) ∧ w'.cell? ⟨w.heap.size + 1, 2, none⟩ = some (.slice A4 n4 c4)))
        (first | exact KS _ TB.out | exact KS _ (TB.out.trans (hb3.mono hs2)) | exact KS _ (TB.out.trans ((hb3.trans (hb4.mono hb3.size)).mono hs2)) | exact KS _ (TB.out.trans ((hb3.trans ((hb4.trans (hb5.mono hb4.size)).mono hb3.size)).mono hs2)))
        (first
          | (go_at_call 138; refine (cmp_any B3 B4 _ q3 _ q4 (N1 * D2) (N2 * D1) w4 k5 k6 (p3.next hb4) p4).mono ?_; rintro e5 w5 ⟨rfl, hb5⟩)
          | (go_at_call 161; (with_reducible refine (times_any A1 A4 n1 c1 n4 c4 N1 D2 w2.drew k1 k4 X1.out X4.out).mono ?_); rintro e3 w3 ⟨B3, q3, rfl, p3, _, hb3⟩)
          | (go_at_call 161; (with_reducible refine (times_any A3 A2 n3 c3 n2 c2 N2 D1 w3 k3 k2 (X3.out.next hb3) (X2.out.next hb3)).mono ?_); rintro e4 w4 ⟨B4, q4, rfl, p4, _, hb4⟩))
      all_goals
        have TE := Lib.hid (TB.out.trans ((hb3.trans ((hb4.trans (hb5.mono hb4.size)).mono hb3.size)).mono hs2))
        clear hb3 hb4 hb5 p3 p4
        go_wp2
        go_meet
        exact ⟨rfl, TE.out⟩
    case rest =>
      obtain ⟨rfl, hbel⟩ := hcut
      have HC := Lib.hid hbel; clear hbel
      obtain ⟨d0, -, -, -, -, -⟩ := HCL.out _ HC.out
      have hcb : -1 ≤ cmpN (N1 * D2) (N2 * D1) ∧ cmpN (N1 * D2) (N2 * D1) ≤ 1 := by unfold cmpN; split; omega; split <;> omega
      have hR : Hid (rcmpN s1 N1 D1 s2 N2 D2 = if g1 = 0 then 0 else if s1 then -cmpN (N1 * D2) (N2 * D1) else cmpN (N1 * D2) (N2 * D1)) := Lib.hid (by unfold rcmpN; rw [HR1.out, HR2.out, if_neg (by omega), if_neg (by omega)])
      have hBE : Hid (Below w.heap.size w wc) := Lib.hid (HB0.out.trans (HC.out.mono (by omega)))
      generalize cmpN (N1 * D2) (N2 * D1) = c at *
      obtain ⟨hc1, hc2⟩ := hcb
      clear KS
      cases hz : (g1 == 0)
      all_goals
        have HZ := Lib.hid hz
        cases s1
        all_goals
          go_wp2
          go_ret
          exact ⟨ret_int (by rw [hR.out]; have := HZ.out; simp at this; simp [this]), hBE.out⟩
  · skip
    go_enter Try.func152, Try.ntmps152
    go_wp2_with fail
    have HB0 : Hid (Below w.heap.size w ((w.alloc (.cells #[.bool s1, .slice A1 n1 c1, .slice A2 n2 c2] 108)).alloc (.cells #[.bool s2, .slice A3 n3 c3, .slice A4 n4 c4] 108))) := Lib.hid (((Below.refl _ _).alloc (Nat.le_refl _) _).alloc (by simp) _)
    refine (rsign_any s1 A1 A2 n1 c1 n2 c2 N1 _ (by omega) (H1.out.next HB0.out)).mono ?_
    rintro e1 w1 ⟨rfl, hb1⟩
    have HB1 : Hid (Below (w.heap.size + 2) ((w.alloc (.cells #[.bool s1, .slice A1 n1 c1, .slice A2 n2 c2] 108)).alloc (.cells #[.bool s2, .slice A3 n3 c3, .slice A4 n4 c4] 108)) w1) := Lib.hid (hb1.mono (by simp))
    have hs1 : w.heap.size + 2 ≤ w1.heap.size := by have := hb1.size; simpa using this
    clear hb1
    have CL : ∀ w' : World, Below (w.heap.size + 2) ((w.alloc (.cells #[.bool s1, .slice A1 n1 c1, .slice A2 n2 c2] 108)).alloc (.cells #[.bool s2, .slice A3 n3 c3, .slice A4 n4 c4] 108)) w' →
        w'.cell? ⟨w.heap.size, 0, none⟩ = some (.bool s1) ∧ w'.cell? ⟨w.heap.size, 1, none⟩ = some (.slice A1 n1 c1) ∧ w'.cell? ⟨w.heap.size, 2, none⟩ = some (.slice A2 n2 c2) ∧
        w'.cell? ⟨w.heap.size + 1, 0, none⟩ = some (.bool s2) ∧ w'.cell? ⟨w.heap.size + 1, 1, none⟩ = some (.slice A3 n3 c3) ∧ w'.cell? ⟨w.heap.size + 1, 2, none⟩ = some (.slice A4 n4 c4) := fun w' hb =>
      ⟨(hb.cell (p := ⟨_, _, none⟩) (by simp)).trans (by simp [go_sem]), (hb.cell (p := ⟨_, _, none⟩) (by simp)).trans (by simp [go_sem]), (hb.cell (p := ⟨_, _, none⟩) (by simp)).trans (by simp [go_sem]),
       (hb.cell (p := ⟨_, _, none⟩) (by simp)).trans (by simp [go_sem]), (hb.cell (p := ⟨_, _, none⟩) (by simp)).trans (by simp [go_sem]), (hb.cell (p := ⟨_, _, none⟩) (by simp)).trans (by simp [go_sem])⟩
    have HCL := Lib.hid CL
    have KS : ∀ w' : World, Below (w.heap.size + 2) ((w.alloc (.cells #[.bool s1, .slice A1 n1 c1, .slice A2 n2 c2] 108)).alloc (.cells #[.bool s2, .slice A3 n3 c3, .slice A4 n4 c4] 108)) w' → (Below (w.heap.size + 2) ((w.alloc (.cells #[.bool s1, .slice A1 n1 c1, .slice A2 n2 c2] 108)).alloc (.cells #[.bool s2, .slice A3 n3 c3, .slice A4 n4 c4] 108)) w' ∧ w'.cell? ⟨w.heap.size, 1, none⟩ = some (.slice A1 n1 c1) ∧ w'.cell? ⟨w.heap.size, 2, none⟩ = some (.slice A2 n2 c2) ∧ w'.cell? ⟨w.heap.size + 1, 1, none⟩ = some (.slice A3 n3 c3) ∧ w'.cell? ⟨w.heap.size + 1, 2, none⟩ = some (.slice A4 n4 c4)) := fun w' hb => ⟨hb, (CL w' hb).2.1, (CL w' hb).2.2.1, (CL w' hb).2.2.2.2.1, (CL w' hb).2.2.2.2.2⟩
    clear CL
    obtain ⟨d0, d1, d2, d3, d4, d5⟩ := HCL.out w1 HB1.out
    rw [HR1.out]
    go_wp2_with fail
    refine (rsign_any s2 A3 A4 n3 c3 n4 c4 N2 _ (by omega) (H3.out.next (HB0.out.trans (HB1.out.mono (by omega))))).mono ?_
    rintro e2 w2 ⟨rfl, hb2⟩
    have HB2 := Lib.hid (HB1.out.trans (hb2.mono hs1))
    have hs2 : w.heap.size + 2 ≤ w2.heap.size := Nat.le_trans hs1 hb2.size
    clear hb2 d0 d1 d2 d3 d4 d5
    rw [HR2.out]
    go_wp2
    go_ret
    exact ⟨ret_int (by unfold rcmpN; rw [HR1.out, HR2.out, if_neg (by omega), if_pos hgt]), HB0.out.trans (HB2.out.mono (by omega))⟩

end Go.Proofs.Ytamaeggkpdgaiaa
