/- The walk of the reference's rounding of a ratio that is a number already: below the whole numbers. -/
import Derived.Test.YtamaeggkpdgaiaaNp
namespace Go.Proofs.Ytamaeggkpdgaiaa
open Go.RowKit

theorem left_lit (A : Option Addr) (n cap N q : Nat) (hq : q = 1074) (w : World) (hn : n ≤ 140737488351232) (hl : 1074 / 32 + wN N + 1 ≤ 35184372088832) (h : NumR w w.heap.size A n N) :
    Calls Try.prog 139 #[.slice A n cap, .int .i64 1074] w fun e w' => NumP w (N * 2 ^ q) e w' := by
  subst hq; exact left_any A n cap N 1074 w hn hl h

set_option maxRecDepth 100000 in
set_option maxHeartbeats 1500000 in
theorem rounded_mid (d : Int) (s : Bool) (A1 A2 : Option Addr) (n1 c1 n2 c2 N D sig k q : Nat) (w : World) (hd : d = 1 ∨ d = -1) (l1 : n1 ≤ 4294967296) (l2 : n2 ≤ 4294967296) (h1 : NumR w w.heap.size A1 n1 N) (h2 : NumR w w.heap.size A2 n2 D)
    (hN : N ≠ 0) (hD : D ≠ 0) (hf : (lenN N : Int) - (lenN D : Int) = (k : Int)) (hc : D * 2 ^ k ≤ N) (hkq : k + q = 52) (hq0 : 0 < q) (hs0 : 0 < sig) (hs : sig < 9007199254740992) (hex : N * 2 ^ q = sig * D) :
    Calls Try.prog 112 #[.int .i64 d, .agg #[.bool s, .slice A1 n1 c1, .slice A2 n2 c2], .int .i64 53, .int .i64 1023] w fun en w' => en = .returned (.int .u64 (madeD s sig (-(q : Int)))) ∧ Below w.heap.size w w' := by
  have H1 := Lib.hid h1; have H2 := Lib.hid h2; clear h1 h2
  have hG : rsg s N = if s then -1 else 1 := by unfold rsg; rw [if_neg hN]
  have HG := Lib.hid hG; clear hG
  have hcm : 0 ≤ cmpN N (D * 2 ^ k) := by unfold cmpN; rw [if_neg (by omega)]; split <;> omega
  generalize hcc : cmpN N (D * 2 ^ k) = cc at *
  have HCC := Lib.hid hcc
  have he1 : -1074 ≤ -(q : Int) := by omega
  have he2 : -(q : Int) ≤ 971 := by omega
  have heq : (k : Int) - 53 + 1 = -(q : Int) := by omega
  have hkb : k < 1024 := by omega
  have hqb : q < 1088 := by omega
  have wk : Hid (wN (D * 2 ^ k) ≤ n2 + 32) := Lib.hid (wN_mul_pow H2.out.1 (by omega))
  have HD0' := Lib.hid hD; have HN0 := Lib.hid hN
  have w1' := H1.out.words; have w2' := H2.out.words
  have HD0 := Lib.hid hD
  have HQ : Hid (N * 2 ^ q / D = sig) := Lib.hid (by rw [hex, Nat.mul_div_cancel _ (Nat.pos_of_ne_zero hD)])
  have HR : Hid (N * 2 ^ q % D = 0) := Lib.hid (by rw [hex]; exact Nat.mul_mod_left _ _)
  have hw2 : Hid (wN sig ≤ 2) := Lib.hid (wN_le.2 (by simp; omega))
  have hsl := Lib.hid hs
  have hw00 : wN 0 = 0 := rfl
  have hne53 : ((sig : Int) == 9007199254740992) = false := by simp; omega
  have wm : Hid (wN (N * 2 ^ q) ≤ n1 + 34) := Lib.hid (wN_mul_pow H1.out.1 (by omega))
  clear hex hcc hs hc hN hD
  rcases hd with rfl | rfl
  · cases s
    · skip
      go_enter Try.func112, Try.ntmps112
      go_wp2_with fail
      have HB0 : Hid (Below w.heap.size w (w.alloc (.cells #[.bool false, .slice A1 n1 c1, .slice A2 n2 c2] 108))) := Lib.hid ((Below.refl _ _).alloc (Nat.le_refl _) _)
      refine (rsign_any false A1 A2 n1 c1 n2 c2 N _ (by omega) (H1.out.next HB0.out)).mono ?_
      rintro e1 w1 ⟨rfl, hb1⟩
      rw [HG.out]
      have r1 := (hb1.cell (p := ⟨w.heap.size, 1, none⟩) (by simp)).trans (show _ = some (.slice A1 n1 c1) from by simp [go_sem])
      have r2 := (hb1.cell (p := ⟨w.heap.size, 2, none⟩) (by simp)).trans (show _ = some (.slice A2 n2 c2) from by simp [go_sem])
      have HB1 := Lib.hid (below_then HB0.out hb1); clear hb1
      go_wp2_with fail
      refine (len_any A1 n1 c1 N _ (by omega) (H1.out.next HB1.out)).mono ?_
      rintro e2 w' ⟨rfl, rfl⟩
      go_wp2_with fail
      refine (len_any A2 n2 c2 D _ (by omega) (H2.out.next HB1.out)).mono ?_
      rintro e3 w' ⟨rfl, rfl⟩
      clear r1 r2
      go_wp2_with fail
      refine (left_any A2 n2 c2 D k _ (by omega) (by omega) (H2.out.next HB1.out)).mono ?_
      rintro e4 w2 ⟨A4, c4, rfl, p1, _, p3⟩
      have HM2 := Lib.hid p1; have HN2 := Lib.hid ((H1.out.next HB1.out).next p3); have HD2 := Lib.hid ((H2.out.next HB1.out).next p3); have HB2 := Lib.hid (below_then HB1.out p3)
      clear p1 p3
      go_wp2_with fail
      refine (cmp_any A1 A4 n1 c1 _ c4 N (D * 2 ^ k) _ (by omega) (by have := wk.out; omega) HN2.out HM2.out).mono ?_
      rintro e5 w3 ⟨rfl, p3⟩
      rw [HCC.out]
      have HN3 := Lib.hid (HN2.out.next p3); have HD3 := Lib.hid (HD2.out.next p3); have HB3 := Lib.hid (below_then HB2.out p3)
      clear p3 HM2 HN2 HD2
      go_wp2_with fail
      refine (left_any A1 n1 c1 N q _ (by omega) (by omega) HN3.out).mono ?_
      rintro e6 w5 ⟨A5, c5, rfl, p1, _, p3⟩
      have HM5 := Lib.hid p1; have HD5 := Lib.hid (HD3.out.next p3); have HBx := Lib.hid (below_then HB3.out p3)
      clear p1 p3
      go_wp2_with fail
      refine (by_any A5 A2 _ _ _ _ (N * 2 ^ q) D _ (by have := wm.out; omega) (by have := l2; omega) HD0.out HM5.out HD5.out).mono ?_
      rintro e7 w6 ⟨A6, c6, A7, c7, rfl, p1, p2, _, _, p3⟩
      rw [HQ.out] at p1 ⊢
      rw [HR.out] at p2 ⊢
      have HM6 := Lib.hid (Hid.out (Lib.hid HD5.out) |>.next p3)
      have HB6 := Lib.hid (below_then HBx.out p3)
      have HS6 := Lib.hid p1; have HZ6 := Lib.hid p2
      clear p1 p2 p3
      go_wp2_with fail
      refine (word_any A6 _ c6 sig _ (by have := hw2.out; omega) hw2.out HS6.out).mono ?_
      rintro e8 w' ⟨rfl, rfl⟩
      go_wp2_with fail
      refine (left_any A7 _ c7 0 1 _ (by simp [hw00]) (by simp [hw00]) HZ6.out).mono ?_
      rintro e9 w7 ⟨A8, c8, rfl, p1, _, p3⟩
      rw [Nat.zero_mul] at p1 ⊢
      have HZ7 := Lib.hid p1; have HM7 := Lib.hid (HM6.out.next p3); have HB7 := Lib.hid (below_then HB6.out p3)
      clear p1 p3
      go_wp2_with fail
      refine (cmp_any A8 A2 _ c8 _ _ 0 D _ (by simp [hw00]) (by have := l2; omega) HZ7.out HM7.out).mono ?_
      rintro e10 w8 ⟨rfl, p3⟩
      rw [cmpN_lt (Nat.pos_of_ne_zero HD0.out)]
      have HB8 := Lib.hid (below_then HB7.out p3)
      clear p3
      go_wp2_with fail
      refine (made_small false sig (-(q : Int)) hs0 hsl.out he1 he2 _).mono ?_
      rintro e11 w' ⟨rfl, rfl⟩
      go_wp2
      go_ret
      exact ⟨rfl, HB8.out⟩
    · skip
      go_enter Try.func112, Try.ntmps112
      go_wp2_with fail
      have HB0 : Hid (Below w.heap.size w (w.alloc (.cells #[.bool true, .slice A1 n1 c1, .slice A2 n2 c2] 108))) := Lib.hid ((Below.refl _ _).alloc (Nat.le_refl _) _)
      refine (rsign_any true A1 A2 n1 c1 n2 c2 N _ (by omega) (H1.out.next HB0.out)).mono ?_
      rintro e1 w1 ⟨rfl, hb1⟩
      rw [HG.out]
      have r1 := (hb1.cell (p := ⟨w.heap.size, 1, none⟩) (by simp)).trans (show _ = some (.slice A1 n1 c1) from by simp [go_sem])
      have r2 := (hb1.cell (p := ⟨w.heap.size, 2, none⟩) (by simp)).trans (show _ = some (.slice A2 n2 c2) from by simp [go_sem])
      have HB1 := Lib.hid (below_then HB0.out hb1); clear hb1
      go_wp2_with fail
      refine (len_any A1 n1 c1 N _ (by omega) (H1.out.next HB1.out)).mono ?_
      rintro e2 w' ⟨rfl, rfl⟩
      go_wp2_with fail
      refine (len_any A2 n2 c2 D _ (by omega) (H2.out.next HB1.out)).mono ?_
      rintro e3 w' ⟨rfl, rfl⟩
      clear r1 r2
      go_wp2_with fail
      refine (left_any A2 n2 c2 D k _ (by omega) (by omega) (H2.out.next HB1.out)).mono ?_
      rintro e4 w2 ⟨A4, c4, rfl, p1, _, p3⟩
      have HM2 := Lib.hid p1; have HN2 := Lib.hid ((H1.out.next HB1.out).next p3); have HD2 := Lib.hid ((H2.out.next HB1.out).next p3); have HB2 := Lib.hid (below_then HB1.out p3)
      clear p1 p3
      go_wp2_with fail
      refine (cmp_any A1 A4 n1 c1 _ c4 N (D * 2 ^ k) _ (by omega) (by have := wk.out; omega) HN2.out HM2.out).mono ?_
      rintro e5 w3 ⟨rfl, p3⟩
      rw [HCC.out]
      have HN3 := Lib.hid (HN2.out.next p3); have HD3 := Lib.hid (HD2.out.next p3); have HB3 := Lib.hid (below_then HB2.out p3)
      clear p3 HM2 HN2 HD2
      go_wp2_with fail
      refine (left_any A1 n1 c1 N q _ (by omega) (by omega) HN3.out).mono ?_
      rintro e6 w5 ⟨A5, c5, rfl, p1, _, p3⟩
      have HM5 := Lib.hid p1; have HD5 := Lib.hid (HD3.out.next p3); have HBx := Lib.hid (below_then HB3.out p3)
      clear p1 p3
      go_wp2_with fail
      refine (by_any A5 A2 _ _ _ _ (N * 2 ^ q) D _ (by have := wm.out; omega) (by have := l2; omega) HD0.out HM5.out HD5.out).mono ?_
      rintro e7 w6 ⟨A6, c6, A7, c7, rfl, p1, p2, _, _, p3⟩
      rw [HQ.out] at p1 ⊢
      rw [HR.out] at p2 ⊢
      have HM6 := Lib.hid (Hid.out (Lib.hid HD5.out) |>.next p3)
      have HB6 := Lib.hid (below_then HBx.out p3)
      have HS6 := Lib.hid p1; have HZ6 := Lib.hid p2
      clear p1 p2 p3
      go_wp2_with fail
      refine (word_any A6 _ c6 sig _ (by have := hw2.out; omega) hw2.out HS6.out).mono ?_
      rintro e8 w' ⟨rfl, rfl⟩
      go_wp2_with fail
      refine (left_any A7 _ c7 0 1 _ (by simp [hw00]) (by simp [hw00]) HZ6.out).mono ?_
      rintro e9 w7 ⟨A8, c8, rfl, p1, _, p3⟩
      rw [Nat.zero_mul] at p1 ⊢
      have HZ7 := Lib.hid p1; have HM7 := Lib.hid (HM6.out.next p3); have HB7 := Lib.hid (below_then HB6.out p3)
      clear p1 p3
      go_wp2_with fail
      refine (cmp_any A8 A2 _ c8 _ _ 0 D _ (by simp [hw00]) (by have := l2; omega) HZ7.out HM7.out).mono ?_
      rintro e10 w8 ⟨rfl, p3⟩
      rw [cmpN_lt (Nat.pos_of_ne_zero HD0.out)]
      have HB8 := Lib.hid (below_then HB7.out p3)
      clear p3
      go_wp2_with fail
      refine (made_small true sig (-(q : Int)) hs0 hsl.out he1 he2 _).mono ?_
      rintro e11 w' ⟨rfl, rfl⟩
      go_wp2
      go_ret
      exact ⟨rfl, HB8.out⟩
  · cases s
    · skip
      go_enter Try.func112, Try.ntmps112
      go_wp2_with fail
      have HB0 : Hid (Below w.heap.size w (w.alloc (.cells #[.bool false, .slice A1 n1 c1, .slice A2 n2 c2] 108))) := Lib.hid ((Below.refl _ _).alloc (Nat.le_refl _) _)
      refine (rsign_any false A1 A2 n1 c1 n2 c2 N _ (by omega) (H1.out.next HB0.out)).mono ?_
      rintro e1 w1 ⟨rfl, hb1⟩
      rw [HG.out]
      have r1 := (hb1.cell (p := ⟨w.heap.size, 1, none⟩) (by simp)).trans (show _ = some (.slice A1 n1 c1) from by simp [go_sem])
      have r2 := (hb1.cell (p := ⟨w.heap.size, 2, none⟩) (by simp)).trans (show _ = some (.slice A2 n2 c2) from by simp [go_sem])
      have HB1 := Lib.hid (below_then HB0.out hb1); clear hb1
      go_wp2_with fail
      refine (len_any A1 n1 c1 N _ (by omega) (H1.out.next HB1.out)).mono ?_
      rintro e2 w' ⟨rfl, rfl⟩
      go_wp2_with fail
      refine (len_any A2 n2 c2 D _ (by omega) (H2.out.next HB1.out)).mono ?_
      rintro e3 w' ⟨rfl, rfl⟩
      clear r1 r2
      go_wp2_with fail
      refine (left_any A2 n2 c2 D k _ (by omega) (by omega) (H2.out.next HB1.out)).mono ?_
      rintro e4 w2 ⟨A4, c4, rfl, p1, _, p3⟩
      have HM2 := Lib.hid p1; have HN2 := Lib.hid ((H1.out.next HB1.out).next p3); have HD2 := Lib.hid ((H2.out.next HB1.out).next p3); have HB2 := Lib.hid (below_then HB1.out p3)
      clear p1 p3
      go_wp2_with fail
      refine (cmp_any A1 A4 n1 c1 _ c4 N (D * 2 ^ k) _ (by omega) (by have := wk.out; omega) HN2.out HM2.out).mono ?_
      rintro e5 w3 ⟨rfl, p3⟩
      rw [HCC.out]
      have HN3 := Lib.hid (HN2.out.next p3); have HD3 := Lib.hid (HD2.out.next p3); have HB3 := Lib.hid (below_then HB2.out p3)
      clear p3 HM2 HN2 HD2
      go_wp2_with fail
      refine (left_any A1 n1 c1 N q _ (by omega) (by omega) HN3.out).mono ?_
      rintro e6 w5 ⟨A5, c5, rfl, p1, _, p3⟩
      have HM5 := Lib.hid p1; have HD5 := Lib.hid (HD3.out.next p3); have HBx := Lib.hid (below_then HB3.out p3)
      clear p1 p3
      go_wp2_with fail
      refine (by_any A5 A2 _ _ _ _ (N * 2 ^ q) D _ (by have := wm.out; omega) (by have := l2; omega) HD0.out HM5.out HD5.out).mono ?_
      rintro e7 w6 ⟨A6, c6, A7, c7, rfl, p1, p2, _, _, p3⟩
      rw [HQ.out] at p1 ⊢
      rw [HR.out] at p2 ⊢
      have HM6 := Lib.hid (Hid.out (Lib.hid HD5.out) |>.next p3)
      have HB6 := Lib.hid (below_then HBx.out p3)
      have HS6 := Lib.hid p1; have HZ6 := Lib.hid p2
      clear p1 p2 p3
      go_wp2_with fail
      refine (word_any A6 _ c6 sig _ (by have := hw2.out; omega) hw2.out HS6.out).mono ?_
      rintro e8 w' ⟨rfl, rfl⟩
      go_wp2_with fail
      refine (left_any A7 _ c7 0 1 _ (by simp [hw00]) (by simp [hw00]) HZ6.out).mono ?_
      rintro e9 w7 ⟨A8, c8, rfl, p1, _, p3⟩
      rw [Nat.zero_mul] at p1 ⊢
      have HZ7 := Lib.hid p1; have HM7 := Lib.hid (HM6.out.next p3); have HB7 := Lib.hid (below_then HB6.out p3)
      clear p1 p3
      go_wp2_with fail
      refine (cmp_any A8 A2 _ c8 _ _ 0 D _ (by simp [hw00]) (by have := l2; omega) HZ7.out HM7.out).mono ?_
      rintro e10 w8 ⟨rfl, p3⟩
      rw [cmpN_lt (Nat.pos_of_ne_zero HD0.out)]
      have HB8 := Lib.hid (below_then HB7.out p3)
      clear p3
      go_wp2_with fail
      refine (made_small false sig (-(q : Int)) hs0 hsl.out he1 he2 _).mono ?_
      rintro e11 w' ⟨rfl, rfl⟩
      go_wp2
      go_ret
      exact ⟨rfl, HB8.out⟩
    · skip
      go_enter Try.func112, Try.ntmps112
      go_wp2_with fail
      have HB0 : Hid (Below w.heap.size w (w.alloc (.cells #[.bool true, .slice A1 n1 c1, .slice A2 n2 c2] 108))) := Lib.hid ((Below.refl _ _).alloc (Nat.le_refl _) _)
      refine (rsign_any true A1 A2 n1 c1 n2 c2 N _ (by omega) (H1.out.next HB0.out)).mono ?_
      rintro e1 w1 ⟨rfl, hb1⟩
      rw [HG.out]
      have r1 := (hb1.cell (p := ⟨w.heap.size, 1, none⟩) (by simp)).trans (show _ = some (.slice A1 n1 c1) from by simp [go_sem])
      have r2 := (hb1.cell (p := ⟨w.heap.size, 2, none⟩) (by simp)).trans (show _ = some (.slice A2 n2 c2) from by simp [go_sem])
      have HB1 := Lib.hid (below_then HB0.out hb1); clear hb1
      go_wp2_with fail
      refine (len_any A1 n1 c1 N _ (by omega) (H1.out.next HB1.out)).mono ?_
      rintro e2 w' ⟨rfl, rfl⟩
      go_wp2_with fail
      refine (len_any A2 n2 c2 D _ (by omega) (H2.out.next HB1.out)).mono ?_
      rintro e3 w' ⟨rfl, rfl⟩
      clear r1 r2
      go_wp2_with fail
      refine (left_any A2 n2 c2 D k _ (by omega) (by omega) (H2.out.next HB1.out)).mono ?_
      rintro e4 w2 ⟨A4, c4, rfl, p1, _, p3⟩
      have HM2 := Lib.hid p1; have HN2 := Lib.hid ((H1.out.next HB1.out).next p3); have HD2 := Lib.hid ((H2.out.next HB1.out).next p3); have HB2 := Lib.hid (below_then HB1.out p3)
      clear p1 p3
      go_wp2_with fail
      refine (cmp_any A1 A4 n1 c1 _ c4 N (D * 2 ^ k) _ (by omega) (by have := wk.out; omega) HN2.out HM2.out).mono ?_
      rintro e5 w3 ⟨rfl, p3⟩
      rw [HCC.out]
      have HN3 := Lib.hid (HN2.out.next p3); have HD3 := Lib.hid (HD2.out.next p3); have HB3 := Lib.hid (below_then HB2.out p3)
      clear p3 HM2 HN2 HD2
      go_wp2_with fail
      refine (left_any A1 n1 c1 N q _ (by omega) (by omega) HN3.out).mono ?_
      rintro e6 w5 ⟨A5, c5, rfl, p1, _, p3⟩
      have HM5 := Lib.hid p1; have HD5 := Lib.hid (HD3.out.next p3); have HBx := Lib.hid (below_then HB3.out p3)
      clear p1 p3
      go_wp2_with fail
      refine (by_any A5 A2 _ _ _ _ (N * 2 ^ q) D _ (by have := wm.out; omega) (by have := l2; omega) HD0.out HM5.out HD5.out).mono ?_
      rintro e7 w6 ⟨A6, c6, A7, c7, rfl, p1, p2, _, _, p3⟩
      rw [HQ.out] at p1 ⊢
      rw [HR.out] at p2 ⊢
      have HM6 := Lib.hid (Hid.out (Lib.hid HD5.out) |>.next p3)
      have HB6 := Lib.hid (below_then HBx.out p3)
      have HS6 := Lib.hid p1; have HZ6 := Lib.hid p2
      clear p1 p2 p3
      go_wp2_with fail
      refine (word_any A6 _ c6 sig _ (by have := hw2.out; omega) hw2.out HS6.out).mono ?_
      rintro e8 w' ⟨rfl, rfl⟩
      go_wp2_with fail
      refine (left_any A7 _ c7 0 1 _ (by simp [hw00]) (by simp [hw00]) HZ6.out).mono ?_
      rintro e9 w7 ⟨A8, c8, rfl, p1, _, p3⟩
      rw [Nat.zero_mul] at p1 ⊢
      have HZ7 := Lib.hid p1; have HM7 := Lib.hid (HM6.out.next p3); have HB7 := Lib.hid (below_then HB6.out p3)
      clear p1 p3
      go_wp2_with fail
      refine (cmp_any A8 A2 _ c8 _ _ 0 D _ (by simp [hw00]) (by have := l2; omega) HZ7.out HM7.out).mono ?_
      rintro e10 w8 ⟨rfl, p3⟩
      rw [cmpN_lt (Nat.pos_of_ne_zero HD0.out)]
      have HB8 := Lib.hid (below_then HB7.out p3)
      clear p3
      go_wp2_with fail
      refine (made_small true sig (-(q : Int)) hs0 hsl.out he1 he2 _).mono ?_
      rintro e11 w' ⟨rfl, rfl⟩
      go_wp2
      go_ret
      exact ⟨rfl, HB8.out⟩

set_option maxRecDepth 100000 in
set_option maxHeartbeats 1500000 in
theorem rounded_low (d : Int) (s : Bool) (A1 A2 : Option Addr) (n1 c1 n2 c2 N D sig k q : Nat) (w : World) (hd : d = 1 ∨ d = -1) (l1 : n1 ≤ 4294967296) (l2 : n2 ≤ 4294967296) (h1 : NumR w w.heap.size A1 n1 N) (h2 : NumR w w.heap.size A2 n2 D)
    (hN : N ≠ 0) (hD : D ≠ 0) (hf : (lenN N : Int) - (lenN D : Int) = -(k : Int)) (hk0 : 0 < k) (hkm : k < 1088) (hc : D ≤ N * 2 ^ k) (hkq : q = min (k + 52) 1074) (hs0 : 0 < sig) (hs : sig < 9007199254740992) (hex : N * 2 ^ q = sig * D) :
    Calls Try.prog 112 #[.int .i64 d, .agg #[.bool s, .slice A1 n1 c1, .slice A2 n2 c2], .int .i64 53, .int .i64 1023] w fun en w' => en = .returned (.int .u64 (madeD s sig (-(q : Int)))) ∧ Below w.heap.size w w' := by
  have H1 := Lib.hid h1; have H2 := Lib.hid h2; clear h1 h2
  have hG : rsg s N = if s then -1 else 1 := by unfold rsg; rw [if_neg hN]
  have HG := Lib.hid hG; clear hG
  have hcm : 0 ≤ cmpN (N * 2 ^ k) D := by unfold cmpN; rw [if_neg (by omega)]; split <;> omega
  generalize hcc : cmpN (N * 2 ^ k) D = cc at *
  have HCC := Lib.hid hcc
  have he1 : -1074 ≤ -(q : Int) := by omega
  have he2 : -(q : Int) ≤ 971 := by omega
  have hqb : q < 1088 := by omega
  have wk : Hid (wN (N * 2 ^ k) ≤ n1 + 34) := Lib.hid (wN_mul_pow H1.out.1 (by omega))
  by_cases hclip : k + 52 ≤ 1074
  · have hkq2 : q = k + 52 := by omega
    have heq : -(k : Int) - 53 + 1 = -(q : Int) := by omega
    clear hkq
    have HD0' := Lib.hid hD; have HN0 := Lib.hid hN
    have w1' := H1.out.words; have w2' := H2.out.words
    have HD0 := Lib.hid hD
    have HQ : Hid (N * 2 ^ q / D = sig) := Lib.hid (by rw [hex, Nat.mul_div_cancel _ (Nat.pos_of_ne_zero hD)])
    have HR : Hid (N * 2 ^ q % D = 0) := Lib.hid (by rw [hex]; exact Nat.mul_mod_left _ _)
    have hw2 : Hid (wN sig ≤ 2) := Lib.hid (wN_le.2 (by simp; omega))
    have hsl := Lib.hid hs
    have hw00 : wN 0 = 0 := rfl
    have hne53 : ((sig : Int) == 9007199254740992) = false := by simp; omega
    have wm : Hid (wN (N * 2 ^ q) ≤ n1 + 34) := Lib.hid (wN_mul_pow H1.out.1 (by omega))
    clear hex hcc hs hc hN hD hkq2
    rcases hd with rfl | rfl
    · cases s
      · skip
        go_enter Try.func112, Try.ntmps112
        go_wp2_with fail
        have HB0 : Hid (Below w.heap.size w (w.alloc (.cells #[.bool false, .slice A1 n1 c1, .slice A2 n2 c2] 108))) := Lib.hid ((Below.refl _ _).alloc (Nat.le_refl _) _)
        refine (rsign_any false A1 A2 n1 c1 n2 c2 N _ (by omega) (H1.out.next HB0.out)).mono ?_
        rintro e1 w1 ⟨rfl, hb1⟩
        rw [HG.out]
        have r1 := (hb1.cell (p := ⟨w.heap.size, 1, none⟩) (by simp)).trans (show _ = some (.slice A1 n1 c1) from by simp [go_sem])
        have r2 := (hb1.cell (p := ⟨w.heap.size, 2, none⟩) (by simp)).trans (show _ = some (.slice A2 n2 c2) from by simp [go_sem])
        have HB1 := Lib.hid (below_then HB0.out hb1); clear hb1
        go_wp2_with fail
        refine (len_any A1 n1 c1 N _ (by omega) (H1.out.next HB1.out)).mono ?_
        rintro e2 w' ⟨rfl, rfl⟩
        go_wp2_with fail
        refine (len_any A2 n2 c2 D _ (by omega) (H2.out.next HB1.out)).mono ?_
        rintro e3 w' ⟨rfl, rfl⟩
        clear r1 r2
        go_wp2_with fail
        refine (left_any A1 n1 c1 N k _ (by omega) (by omega) (H1.out.next HB1.out)).mono ?_
        rintro e4 w2 ⟨A4, c4, rfl, p1, _, p3⟩
        have HM2 := Lib.hid p1; have HN2 := Lib.hid ((H1.out.next HB1.out).next p3); have HD2 := Lib.hid ((H2.out.next HB1.out).next p3); have HB2 := Lib.hid (below_then HB1.out p3)
        clear p1 p3
        go_wp2_with fail
        refine (cmp_any A4 A2 _ c4 n2 c2 (N * 2 ^ k) D _ (by have := wk.out; omega) (by omega) HM2.out HD2.out).mono ?_
        rintro e5 w3 ⟨rfl, p3⟩
        rw [HCC.out]
        have HN3 := Lib.hid (HN2.out.next p3); have HD3 := Lib.hid (HD2.out.next p3); have HB3 := Lib.hid (below_then HB2.out p3)
        clear p3 HM2 HN2 HD2
        go_wp2_with fail
        refine (left_any A1 n1 c1 N q _ (by omega) (by omega) HN3.out).mono ?_
        rintro e6 w5 ⟨A5, c5, rfl, p1, _, p3⟩
        have HM5 := Lib.hid p1; have HD5 := Lib.hid (HD3.out.next p3); have HBx := Lib.hid (below_then HB3.out p3)
        clear p1 p3
        go_wp2_with fail
        refine (by_any A5 A2 _ _ _ _ (N * 2 ^ q) D _ (by have := wm.out; omega) (by have := l2; omega) HD0.out HM5.out HD5.out).mono ?_
        rintro e7 w6 ⟨A6, c6, A7, c7, rfl, p1, p2, _, _, p3⟩
        rw [HQ.out] at p1 ⊢
        rw [HR.out] at p2 ⊢
        have HM6 := Lib.hid (Hid.out (Lib.hid HD5.out) |>.next p3)
        have HB6 := Lib.hid (below_then HBx.out p3)
        have HS6 := Lib.hid p1; have HZ6 := Lib.hid p2
        clear p1 p2 p3
        go_wp2_with fail
        refine (word_any A6 _ c6 sig _ (by have := hw2.out; omega) hw2.out HS6.out).mono ?_
        rintro e8 w' ⟨rfl, rfl⟩
        go_wp2_with fail
        refine (left_any A7 _ c7 0 1 _ (by simp [hw00]) (by simp [hw00]) HZ6.out).mono ?_
        rintro e9 w7 ⟨A8, c8, rfl, p1, _, p3⟩
        rw [Nat.zero_mul] at p1 ⊢
        have HZ7 := Lib.hid p1; have HM7 := Lib.hid (HM6.out.next p3); have HB7 := Lib.hid (below_then HB6.out p3)
        clear p1 p3
        go_wp2_with fail
        refine (cmp_any A8 A2 _ c8 _ _ 0 D _ (by simp [hw00]) (by have := l2; omega) HZ7.out HM7.out).mono ?_
        rintro e10 w8 ⟨rfl, p3⟩
        rw [cmpN_lt (Nat.pos_of_ne_zero HD0.out)]
        have HB8 := Lib.hid (below_then HB7.out p3)
        clear p3
        go_wp2_with fail
        refine (made_small false sig (-(q : Int)) hs0 hsl.out he1 he2 _).mono ?_
        rintro e11 w' ⟨rfl, rfl⟩
        go_wp2
        go_ret
        exact ⟨rfl, HB8.out⟩
      · skip
        go_enter Try.func112, Try.ntmps112
        go_wp2_with fail
        have HB0 : Hid (Below w.heap.size w (w.alloc (.cells #[.bool true, .slice A1 n1 c1, .slice A2 n2 c2] 108))) := Lib.hid ((Below.refl _ _).alloc (Nat.le_refl _) _)
        refine (rsign_any true A1 A2 n1 c1 n2 c2 N _ (by omega) (H1.out.next HB0.out)).mono ?_
        rintro e1 w1 ⟨rfl, hb1⟩
        rw [HG.out]
        have r1 := (hb1.cell (p := ⟨w.heap.size, 1, none⟩) (by simp)).trans (show _ = some (.slice A1 n1 c1) from by simp [go_sem])
        have r2 := (hb1.cell (p := ⟨w.heap.size, 2, none⟩) (by simp)).trans (show _ = some (.slice A2 n2 c2) from by simp [go_sem])
        have HB1 := Lib.hid (below_then HB0.out hb1); clear hb1
        go_wp2_with fail
        refine (len_any A1 n1 c1 N _ (by omega) (H1.out.next HB1.out)).mono ?_
        rintro e2 w' ⟨rfl, rfl⟩
        go_wp2_with fail
        refine (len_any A2 n2 c2 D _ (by omega) (H2.out.next HB1.out)).mono ?_
        rintro e3 w' ⟨rfl, rfl⟩
        clear r1 r2
        go_wp2_with fail
        refine (left_any A1 n1 c1 N k _ (by omega) (by omega) (H1.out.next HB1.out)).mono ?_
        rintro e4 w2 ⟨A4, c4, rfl, p1, _, p3⟩
        have HM2 := Lib.hid p1; have HN2 := Lib.hid ((H1.out.next HB1.out).next p3); have HD2 := Lib.hid ((H2.out.next HB1.out).next p3); have HB2 := Lib.hid (below_then HB1.out p3)
        clear p1 p3
        go_wp2_with fail
        refine (cmp_any A4 A2 _ c4 n2 c2 (N * 2 ^ k) D _ (by have := wk.out; omega) (by omega) HM2.out HD2.out).mono ?_
        rintro e5 w3 ⟨rfl, p3⟩
        rw [HCC.out]
        have HN3 := Lib.hid (HN2.out.next p3); have HD3 := Lib.hid (HD2.out.next p3); have HB3 := Lib.hid (below_then HB2.out p3)
        clear p3 HM2 HN2 HD2
        go_wp2_with fail
        refine (left_any A1 n1 c1 N q _ (by omega) (by omega) HN3.out).mono ?_
        rintro e6 w5 ⟨A5, c5, rfl, p1, _, p3⟩
        have HM5 := Lib.hid p1; have HD5 := Lib.hid (HD3.out.next p3); have HBx := Lib.hid (below_then HB3.out p3)
        clear p1 p3
        go_wp2_with fail
        refine (by_any A5 A2 _ _ _ _ (N * 2 ^ q) D _ (by have := wm.out; omega) (by have := l2; omega) HD0.out HM5.out HD5.out).mono ?_
        rintro e7 w6 ⟨A6, c6, A7, c7, rfl, p1, p2, _, _, p3⟩
        rw [HQ.out] at p1 ⊢
        rw [HR.out] at p2 ⊢
        have HM6 := Lib.hid (Hid.out (Lib.hid HD5.out) |>.next p3)
        have HB6 := Lib.hid (below_then HBx.out p3)
        have HS6 := Lib.hid p1; have HZ6 := Lib.hid p2
        clear p1 p2 p3
        go_wp2_with fail
        refine (word_any A6 _ c6 sig _ (by have := hw2.out; omega) hw2.out HS6.out).mono ?_
        rintro e8 w' ⟨rfl, rfl⟩
        go_wp2_with fail
        refine (left_any A7 _ c7 0 1 _ (by simp [hw00]) (by simp [hw00]) HZ6.out).mono ?_
        rintro e9 w7 ⟨A8, c8, rfl, p1, _, p3⟩
        rw [Nat.zero_mul] at p1 ⊢
        have HZ7 := Lib.hid p1; have HM7 := Lib.hid (HM6.out.next p3); have HB7 := Lib.hid (below_then HB6.out p3)
        clear p1 p3
        go_wp2_with fail
        refine (cmp_any A8 A2 _ c8 _ _ 0 D _ (by simp [hw00]) (by have := l2; omega) HZ7.out HM7.out).mono ?_
        rintro e10 w8 ⟨rfl, p3⟩
        rw [cmpN_lt (Nat.pos_of_ne_zero HD0.out)]
        have HB8 := Lib.hid (below_then HB7.out p3)
        clear p3
        go_wp2_with fail
        refine (made_small true sig (-(q : Int)) hs0 hsl.out he1 he2 _).mono ?_
        rintro e11 w' ⟨rfl, rfl⟩
        go_wp2
        go_ret
        exact ⟨rfl, HB8.out⟩
    · cases s
      · skip
        go_enter Try.func112, Try.ntmps112
        go_wp2_with fail
        have HB0 : Hid (Below w.heap.size w (w.alloc (.cells #[.bool false, .slice A1 n1 c1, .slice A2 n2 c2] 108))) := Lib.hid ((Below.refl _ _).alloc (Nat.le_refl _) _)
        refine (rsign_any false A1 A2 n1 c1 n2 c2 N _ (by omega) (H1.out.next HB0.out)).mono ?_
        rintro e1 w1 ⟨rfl, hb1⟩
        rw [HG.out]
        have r1 := (hb1.cell (p := ⟨w.heap.size, 1, none⟩) (by simp)).trans (show _ = some (.slice A1 n1 c1) from by simp [go_sem])
        have r2 := (hb1.cell (p := ⟨w.heap.size, 2, none⟩) (by simp)).trans (show _ = some (.slice A2 n2 c2) from by simp [go_sem])
        have HB1 := Lib.hid (below_then HB0.out hb1); clear hb1
        go_wp2_with fail
        refine (len_any A1 n1 c1 N _ (by omega) (H1.out.next HB1.out)).mono ?_
        rintro e2 w' ⟨rfl, rfl⟩
        go_wp2_with fail
        refine (len_any A2 n2 c2 D _ (by omega) (H2.out.next HB1.out)).mono ?_
        rintro e3 w' ⟨rfl, rfl⟩
        clear r1 r2
        go_wp2_with fail
        refine (left_any A1 n1 c1 N k _ (by omega) (by omega) (H1.out.next HB1.out)).mono ?_
        rintro e4 w2 ⟨A4, c4, rfl, p1, _, p3⟩
        have HM2 := Lib.hid p1; have HN2 := Lib.hid ((H1.out.next HB1.out).next p3); have HD2 := Lib.hid ((H2.out.next HB1.out).next p3); have HB2 := Lib.hid (below_then HB1.out p3)
        clear p1 p3
        go_wp2_with fail
        refine (cmp_any A4 A2 _ c4 n2 c2 (N * 2 ^ k) D _ (by have := wk.out; omega) (by omega) HM2.out HD2.out).mono ?_
        rintro e5 w3 ⟨rfl, p3⟩
        rw [HCC.out]
        have HN3 := Lib.hid (HN2.out.next p3); have HD3 := Lib.hid (HD2.out.next p3); have HB3 := Lib.hid (below_then HB2.out p3)
        clear p3 HM2 HN2 HD2
        go_wp2_with fail
        refine (left_any A1 n1 c1 N q _ (by omega) (by omega) HN3.out).mono ?_
        rintro e6 w5 ⟨A5, c5, rfl, p1, _, p3⟩
        have HM5 := Lib.hid p1; have HD5 := Lib.hid (HD3.out.next p3); have HBx := Lib.hid (below_then HB3.out p3)
        clear p1 p3
        go_wp2_with fail
        refine (by_any A5 A2 _ _ _ _ (N * 2 ^ q) D _ (by have := wm.out; omega) (by have := l2; omega) HD0.out HM5.out HD5.out).mono ?_
        rintro e7 w6 ⟨A6, c6, A7, c7, rfl, p1, p2, _, _, p3⟩
        rw [HQ.out] at p1 ⊢
        rw [HR.out] at p2 ⊢
        have HM6 := Lib.hid (Hid.out (Lib.hid HD5.out) |>.next p3)
        have HB6 := Lib.hid (below_then HBx.out p3)
        have HS6 := Lib.hid p1; have HZ6 := Lib.hid p2
        clear p1 p2 p3
        go_wp2_with fail
        refine (word_any A6 _ c6 sig _ (by have := hw2.out; omega) hw2.out HS6.out).mono ?_
        rintro e8 w' ⟨rfl, rfl⟩
        go_wp2_with fail
        refine (left_any A7 _ c7 0 1 _ (by simp [hw00]) (by simp [hw00]) HZ6.out).mono ?_
        rintro e9 w7 ⟨A8, c8, rfl, p1, _, p3⟩
        rw [Nat.zero_mul] at p1 ⊢
        have HZ7 := Lib.hid p1; have HM7 := Lib.hid (HM6.out.next p3); have HB7 := Lib.hid (below_then HB6.out p3)
        clear p1 p3
        go_wp2_with fail
        refine (cmp_any A8 A2 _ c8 _ _ 0 D _ (by simp [hw00]) (by have := l2; omega) HZ7.out HM7.out).mono ?_
        rintro e10 w8 ⟨rfl, p3⟩
        rw [cmpN_lt (Nat.pos_of_ne_zero HD0.out)]
        have HB8 := Lib.hid (below_then HB7.out p3)
        clear p3
        go_wp2_with fail
        refine (made_small false sig (-(q : Int)) hs0 hsl.out he1 he2 _).mono ?_
        rintro e11 w' ⟨rfl, rfl⟩
        go_wp2
        go_ret
        exact ⟨rfl, HB8.out⟩
      · skip
        go_enter Try.func112, Try.ntmps112
        go_wp2_with fail
        have HB0 : Hid (Below w.heap.size w (w.alloc (.cells #[.bool true, .slice A1 n1 c1, .slice A2 n2 c2] 108))) := Lib.hid ((Below.refl _ _).alloc (Nat.le_refl _) _)
        refine (rsign_any true A1 A2 n1 c1 n2 c2 N _ (by omega) (H1.out.next HB0.out)).mono ?_
        rintro e1 w1 ⟨rfl, hb1⟩
        rw [HG.out]
        have r1 := (hb1.cell (p := ⟨w.heap.size, 1, none⟩) (by simp)).trans (show _ = some (.slice A1 n1 c1) from by simp [go_sem])
        have r2 := (hb1.cell (p := ⟨w.heap.size, 2, none⟩) (by simp)).trans (show _ = some (.slice A2 n2 c2) from by simp [go_sem])
        have HB1 := Lib.hid (below_then HB0.out hb1); clear hb1
        go_wp2_with fail
        refine (len_any A1 n1 c1 N _ (by omega) (H1.out.next HB1.out)).mono ?_
        rintro e2 w' ⟨rfl, rfl⟩
        go_wp2_with fail
        refine (len_any A2 n2 c2 D _ (by omega) (H2.out.next HB1.out)).mono ?_
        rintro e3 w' ⟨rfl, rfl⟩
        clear r1 r2
        go_wp2_with fail
        refine (left_any A1 n1 c1 N k _ (by omega) (by omega) (H1.out.next HB1.out)).mono ?_
        rintro e4 w2 ⟨A4, c4, rfl, p1, _, p3⟩
        have HM2 := Lib.hid p1; have HN2 := Lib.hid ((H1.out.next HB1.out).next p3); have HD2 := Lib.hid ((H2.out.next HB1.out).next p3); have HB2 := Lib.hid (below_then HB1.out p3)
        clear p1 p3
        go_wp2_with fail
        refine (cmp_any A4 A2 _ c4 n2 c2 (N * 2 ^ k) D _ (by have := wk.out; omega) (by omega) HM2.out HD2.out).mono ?_
        rintro e5 w3 ⟨rfl, p3⟩
        rw [HCC.out]
        have HN3 := Lib.hid (HN2.out.next p3); have HD3 := Lib.hid (HD2.out.next p3); have HB3 := Lib.hid (below_then HB2.out p3)
        clear p3 HM2 HN2 HD2
        go_wp2_with fail
        refine (left_any A1 n1 c1 N q _ (by omega) (by omega) HN3.out).mono ?_
        rintro e6 w5 ⟨A5, c5, rfl, p1, _, p3⟩
        have HM5 := Lib.hid p1; have HD5 := Lib.hid (HD3.out.next p3); have HBx := Lib.hid (below_then HB3.out p3)
        clear p1 p3
        go_wp2_with fail
        refine (by_any A5 A2 _ _ _ _ (N * 2 ^ q) D _ (by have := wm.out; omega) (by have := l2; omega) HD0.out HM5.out HD5.out).mono ?_
        rintro e7 w6 ⟨A6, c6, A7, c7, rfl, p1, p2, _, _, p3⟩
        rw [HQ.out] at p1 ⊢
        rw [HR.out] at p2 ⊢
        have HM6 := Lib.hid (Hid.out (Lib.hid HD5.out) |>.next p3)
        have HB6 := Lib.hid (below_then HBx.out p3)
        have HS6 := Lib.hid p1; have HZ6 := Lib.hid p2
        clear p1 p2 p3
        go_wp2_with fail
        refine (word_any A6 _ c6 sig _ (by have := hw2.out; omega) hw2.out HS6.out).mono ?_
        rintro e8 w' ⟨rfl, rfl⟩
        go_wp2_with fail
        refine (left_any A7 _ c7 0 1 _ (by simp [hw00]) (by simp [hw00]) HZ6.out).mono ?_
        rintro e9 w7 ⟨A8, c8, rfl, p1, _, p3⟩
        rw [Nat.zero_mul] at p1 ⊢
        have HZ7 := Lib.hid p1; have HM7 := Lib.hid (HM6.out.next p3); have HB7 := Lib.hid (below_then HB6.out p3)
        clear p1 p3
        go_wp2_with fail
        refine (cmp_any A8 A2 _ c8 _ _ 0 D _ (by simp [hw00]) (by have := l2; omega) HZ7.out HM7.out).mono ?_
        rintro e10 w8 ⟨rfl, p3⟩
        rw [cmpN_lt (Nat.pos_of_ne_zero HD0.out)]
        have HB8 := Lib.hid (below_then HB7.out p3)
        clear p3
        go_wp2_with fail
        refine (made_small true sig (-(q : Int)) hs0 hsl.out he1 he2 _).mono ?_
        rintro e11 w' ⟨rfl, rfl⟩
        go_wp2
        go_ret
        exact ⟨rfl, HB8.out⟩
  · have hkq2 : q = 1074 := by omega
    clear hkq
    have hcl1 : -(k : Int) - 53 + 1 < -1074 := by omega
    have HD0' := Lib.hid hD; have HN0 := Lib.hid hN
    have w1' := H1.out.words; have w2' := H2.out.words
    have HD0 := Lib.hid hD
    have HQ : Hid (N * 2 ^ q / D = sig) := Lib.hid (by rw [hex, Nat.mul_div_cancel _ (Nat.pos_of_ne_zero hD)])
    have HR : Hid (N * 2 ^ q % D = 0) := Lib.hid (by rw [hex]; exact Nat.mul_mod_left _ _)
    have hw2 : Hid (wN sig ≤ 2) := Lib.hid (wN_le.2 (by simp; omega))
    have hsl := Lib.hid hs
    have hw00 : wN 0 = 0 := rfl
    have hne53 : ((sig : Int) == 9007199254740992) = false := by simp; omega
    have wm : Hid (wN (N * 2 ^ q) ≤ n1 + 34) := Lib.hid (wN_mul_pow H1.out.1 (by omega))
    have HQ74 := Lib.hid hkq2
    have hqq : -1074 ≤ (-1074 : Int) ∧ (-1074 : Int) ≤ 971 := by omega
    replace he1 := hqq.1
    replace he2 := hqq.2
    clear hex hcc hs hc hN hD hkq2 hqq
    rcases hd with rfl | rfl
    · cases s
      · skip
        go_enter Try.func112, Try.ntmps112
        go_wp2_with fail
        have HB0 : Hid (Below w.heap.size w (w.alloc (.cells #[.bool false, .slice A1 n1 c1, .slice A2 n2 c2] 108))) := Lib.hid ((Below.refl _ _).alloc (Nat.le_refl _) _)
        refine (rsign_any false A1 A2 n1 c1 n2 c2 N _ (by omega) (H1.out.next HB0.out)).mono ?_
        rintro e1 w1 ⟨rfl, hb1⟩
        rw [HG.out]
        have r1 := (hb1.cell (p := ⟨w.heap.size, 1, none⟩) (by simp)).trans (show _ = some (.slice A1 n1 c1) from by simp [go_sem])
        have r2 := (hb1.cell (p := ⟨w.heap.size, 2, none⟩) (by simp)).trans (show _ = some (.slice A2 n2 c2) from by simp [go_sem])
        have HB1 := Lib.hid (below_then HB0.out hb1); clear hb1
        go_wp2_with fail
        refine (len_any A1 n1 c1 N _ (by omega) (H1.out.next HB1.out)).mono ?_
        rintro e2 w' ⟨rfl, rfl⟩
        go_wp2_with fail
        refine (len_any A2 n2 c2 D _ (by omega) (H2.out.next HB1.out)).mono ?_
        rintro e3 w' ⟨rfl, rfl⟩
        clear r1 r2
        go_wp2_with fail
        refine (left_any A1 n1 c1 N k _ (by omega) (by omega) (H1.out.next HB1.out)).mono ?_
        rintro e4 w2 ⟨A4, c4, rfl, p1, _, p3⟩
        have HM2 := Lib.hid p1; have HN2 := Lib.hid ((H1.out.next HB1.out).next p3); have HD2 := Lib.hid ((H2.out.next HB1.out).next p3); have HB2 := Lib.hid (below_then HB1.out p3)
        clear p1 p3
        go_wp2_with fail
        refine (cmp_any A4 A2 _ c4 n2 c2 (N * 2 ^ k) D _ (by have := wk.out; omega) (by omega) HM2.out HD2.out).mono ?_
        rintro e5 w3 ⟨rfl, p3⟩
        rw [HCC.out]
        have HN3 := Lib.hid (HN2.out.next p3); have HD3 := Lib.hid (HD2.out.next p3); have HB3 := Lib.hid (below_then HB2.out p3)
        clear p3 HM2 HN2 HD2
        go_wp2_with fail
        refine (left_lit A1 n1 c1 N q HQ74.out _ (by omega) (by omega) HN3.out).mono ?_
        rintro e6 w5 ⟨A5, c5, rfl, p1, _, p3⟩
        have HM5 := Lib.hid p1; have HD5 := Lib.hid (HD3.out.next p3); have HBx := Lib.hid (below_then HB3.out p3)
        clear p1 p3
        go_wp2_with fail
        refine (by_any A5 A2 _ _ _ _ (N * 2 ^ q) D _ (by have := wm.out; omega) (by have := l2; omega) HD0.out HM5.out HD5.out).mono ?_
        rintro e7 w6 ⟨A6, c6, A7, c7, rfl, p1, p2, _, _, p3⟩
        rw [HQ.out] at p1 ⊢
        rw [HR.out] at p2 ⊢
        have HM6 := Lib.hid (Hid.out (Lib.hid HD5.out) |>.next p3)
        have HB6 := Lib.hid (below_then HBx.out p3)
        have HS6 := Lib.hid p1; have HZ6 := Lib.hid p2
        clear p1 p2 p3
        go_wp2_with fail
        refine (word_any A6 _ c6 sig _ (by have := hw2.out; omega) hw2.out HS6.out).mono ?_
        rintro e8 w' ⟨rfl, rfl⟩
        go_wp2_with fail
        refine (left_any A7 _ c7 0 1 _ (by simp [hw00]) (by simp [hw00]) HZ6.out).mono ?_
        rintro e9 w7 ⟨A8, c8, rfl, p1, _, p3⟩
        rw [Nat.zero_mul] at p1 ⊢
        have HZ7 := Lib.hid p1; have HM7 := Lib.hid (HM6.out.next p3); have HB7 := Lib.hid (below_then HB6.out p3)
        clear p1 p3
        go_wp2_with fail
        refine (cmp_any A8 A2 _ c8 _ _ 0 D _ (by simp [hw00]) (by have := l2; omega) HZ7.out HM7.out).mono ?_
        rintro e10 w8 ⟨rfl, p3⟩
        rw [cmpN_lt (Nat.pos_of_ne_zero HD0.out)]
        have HB8 := Lib.hid (below_then HB7.out p3)
        clear p3
        go_wp2_with fail
        refine (made_small false sig (-1074) hs0 hsl.out he1 he2 _).mono ?_
        rintro e11 w' ⟨rfl, rfl⟩
        go_wp2
        go_ret
        exact ⟨(ret_int (by have h74 := HQ74.out; subst h74; rfl)), HB8.out⟩
      · skip
        go_enter Try.func112, Try.ntmps112
        go_wp2_with fail
        have HB0 : Hid (Below w.heap.size w (w.alloc (.cells #[.bool true, .slice A1 n1 c1, .slice A2 n2 c2] 108))) := Lib.hid ((Below.refl _ _).alloc (Nat.le_refl _) _)
        refine (rsign_any true A1 A2 n1 c1 n2 c2 N _ (by omega) (H1.out.next HB0.out)).mono ?_
        rintro e1 w1 ⟨rfl, hb1⟩
        rw [HG.out]
        have r1 := (hb1.cell (p := ⟨w.heap.size, 1, none⟩) (by simp)).trans (show _ = some (.slice A1 n1 c1) from by simp [go_sem])
        have r2 := (hb1.cell (p := ⟨w.heap.size, 2, none⟩) (by simp)).trans (show _ = some (.slice A2 n2 c2) from by simp [go_sem])
        have HB1 := Lib.hid (below_then HB0.out hb1); clear hb1
        go_wp2_with fail
        refine (len_any A1 n1 c1 N _ (by omega) (H1.out.next HB1.out)).mono ?_
        rintro e2 w' ⟨rfl, rfl⟩
        go_wp2_with fail
        refine (len_any A2 n2 c2 D _ (by omega) (H2.out.next HB1.out)).mono ?_
        rintro e3 w' ⟨rfl, rfl⟩
        clear r1 r2
        go_wp2_with fail
        refine (left_any A1 n1 c1 N k _ (by omega) (by omega) (H1.out.next HB1.out)).mono ?_
        rintro e4 w2 ⟨A4, c4, rfl, p1, _, p3⟩
        have HM2 := Lib.hid p1; have HN2 := Lib.hid ((H1.out.next HB1.out).next p3); have HD2 := Lib.hid ((H2.out.next HB1.out).next p3); have HB2 := Lib.hid (below_then HB1.out p3)
        clear p1 p3
        go_wp2_with fail
        refine (cmp_any A4 A2 _ c4 n2 c2 (N * 2 ^ k) D _ (by have := wk.out; omega) (by omega) HM2.out HD2.out).mono ?_
        rintro e5 w3 ⟨rfl, p3⟩
        rw [HCC.out]
        have HN3 := Lib.hid (HN2.out.next p3); have HD3 := Lib.hid (HD2.out.next p3); have HB3 := Lib.hid (below_then HB2.out p3)
        clear p3 HM2 HN2 HD2
        go_wp2_with fail
        refine (left_lit A1 n1 c1 N q HQ74.out _ (by omega) (by omega) HN3.out).mono ?_
        rintro e6 w5 ⟨A5, c5, rfl, p1, _, p3⟩
        have HM5 := Lib.hid p1; have HD5 := Lib.hid (HD3.out.next p3); have HBx := Lib.hid (below_then HB3.out p3)
        clear p1 p3
        go_wp2_with fail
        refine (by_any A5 A2 _ _ _ _ (N * 2 ^ q) D _ (by have := wm.out; omega) (by have := l2; omega) HD0.out HM5.out HD5.out).mono ?_
        rintro e7 w6 ⟨A6, c6, A7, c7, rfl, p1, p2, _, _, p3⟩
        rw [HQ.out] at p1 ⊢
        rw [HR.out] at p2 ⊢
        have HM6 := Lib.hid (Hid.out (Lib.hid HD5.out) |>.next p3)
        have HB6 := Lib.hid (below_then HBx.out p3)
        have HS6 := Lib.hid p1; have HZ6 := Lib.hid p2
        clear p1 p2 p3
        go_wp2_with fail
        refine (word_any A6 _ c6 sig _ (by have := hw2.out; omega) hw2.out HS6.out).mono ?_
        rintro e8 w' ⟨rfl, rfl⟩
        go_wp2_with fail
        refine (left_any A7 _ c7 0 1 _ (by simp [hw00]) (by simp [hw00]) HZ6.out).mono ?_
        rintro e9 w7 ⟨A8, c8, rfl, p1, _, p3⟩
        rw [Nat.zero_mul] at p1 ⊢
        have HZ7 := Lib.hid p1; have HM7 := Lib.hid (HM6.out.next p3); have HB7 := Lib.hid (below_then HB6.out p3)
        clear p1 p3
        go_wp2_with fail
        refine (cmp_any A8 A2 _ c8 _ _ 0 D _ (by simp [hw00]) (by have := l2; omega) HZ7.out HM7.out).mono ?_
        rintro e10 w8 ⟨rfl, p3⟩
        rw [cmpN_lt (Nat.pos_of_ne_zero HD0.out)]
        have HB8 := Lib.hid (below_then HB7.out p3)
        clear p3
        go_wp2_with fail
        refine (made_small true sig (-1074) hs0 hsl.out he1 he2 _).mono ?_
        rintro e11 w' ⟨rfl, rfl⟩
        go_wp2
        go_ret
        exact ⟨(ret_int (by have h74 := HQ74.out; subst h74; rfl)), HB8.out⟩
    · cases s
      · skip
        go_enter Try.func112, Try.ntmps112
        go_wp2_with fail
        have HB0 : Hid (Below w.heap.size w (w.alloc (.cells #[.bool false, .slice A1 n1 c1, .slice A2 n2 c2] 108))) := Lib.hid ((Below.refl _ _).alloc (Nat.le_refl _) _)
        refine (rsign_any false A1 A2 n1 c1 n2 c2 N _ (by omega) (H1.out.next HB0.out)).mono ?_
        rintro e1 w1 ⟨rfl, hb1⟩
        rw [HG.out]
        have r1 := (hb1.cell (p := ⟨w.heap.size, 1, none⟩) (by simp)).trans (show _ = some (.slice A1 n1 c1) from by simp [go_sem])
        have r2 := (hb1.cell (p := ⟨w.heap.size, 2, none⟩) (by simp)).trans (show _ = some (.slice A2 n2 c2) from by simp [go_sem])
        have HB1 := Lib.hid (below_then HB0.out hb1); clear hb1
        go_wp2_with fail
        refine (len_any A1 n1 c1 N _ (by omega) (H1.out.next HB1.out)).mono ?_
        rintro e2 w' ⟨rfl, rfl⟩
        go_wp2_with fail
        refine (len_any A2 n2 c2 D _ (by omega) (H2.out.next HB1.out)).mono ?_
        rintro e3 w' ⟨rfl, rfl⟩
        clear r1 r2
        go_wp2_with fail
        refine (left_any A1 n1 c1 N k _ (by omega) (by omega) (H1.out.next HB1.out)).mono ?_
        rintro e4 w2 ⟨A4, c4, rfl, p1, _, p3⟩
        have HM2 := Lib.hid p1; have HN2 := Lib.hid ((H1.out.next HB1.out).next p3); have HD2 := Lib.hid ((H2.out.next HB1.out).next p3); have HB2 := Lib.hid (below_then HB1.out p3)
        clear p1 p3
        go_wp2_with fail
        refine (cmp_any A4 A2 _ c4 n2 c2 (N * 2 ^ k) D _ (by have := wk.out; omega) (by omega) HM2.out HD2.out).mono ?_
        rintro e5 w3 ⟨rfl, p3⟩
        rw [HCC.out]
        have HN3 := Lib.hid (HN2.out.next p3); have HD3 := Lib.hid (HD2.out.next p3); have HB3 := Lib.hid (below_then HB2.out p3)
        clear p3 HM2 HN2 HD2
        go_wp2_with fail
        refine (left_lit A1 n1 c1 N q HQ74.out _ (by omega) (by omega) HN3.out).mono ?_
        rintro e6 w5 ⟨A5, c5, rfl, p1, _, p3⟩
        have HM5 := Lib.hid p1; have HD5 := Lib.hid (HD3.out.next p3); have HBx := Lib.hid (below_then HB3.out p3)
        clear p1 p3
        go_wp2_with fail
        refine (by_any A5 A2 _ _ _ _ (N * 2 ^ q) D _ (by have := wm.out; omega) (by have := l2; omega) HD0.out HM5.out HD5.out).mono ?_
        rintro e7 w6 ⟨A6, c6, A7, c7, rfl, p1, p2, _, _, p3⟩
        rw [HQ.out] at p1 ⊢
        rw [HR.out] at p2 ⊢
        have HM6 := Lib.hid (Hid.out (Lib.hid HD5.out) |>.next p3)
        have HB6 := Lib.hid (below_then HBx.out p3)
        have HS6 := Lib.hid p1; have HZ6 := Lib.hid p2
        clear p1 p2 p3
        go_wp2_with fail
        refine (word_any A6 _ c6 sig _ (by have := hw2.out; omega) hw2.out HS6.out).mono ?_
        rintro e8 w' ⟨rfl, rfl⟩
        go_wp2_with fail
        refine (left_any A7 _ c7 0 1 _ (by simp [hw00]) (by simp [hw00]) HZ6.out).mono ?_
        rintro e9 w7 ⟨A8, c8, rfl, p1, _, p3⟩
        rw [Nat.zero_mul] at p1 ⊢
        have HZ7 := Lib.hid p1; have HM7 := Lib.hid (HM6.out.next p3); have HB7 := Lib.hid (below_then HB6.out p3)
        clear p1 p3
        go_wp2_with fail
        refine (cmp_any A8 A2 _ c8 _ _ 0 D _ (by simp [hw00]) (by have := l2; omega) HZ7.out HM7.out).mono ?_
        rintro e10 w8 ⟨rfl, p3⟩
        rw [cmpN_lt (Nat.pos_of_ne_zero HD0.out)]
        have HB8 := Lib.hid (below_then HB7.out p3)
        clear p3
        go_wp2_with fail
        refine (made_small false sig (-1074) hs0 hsl.out he1 he2 _).mono ?_
        rintro e11 w' ⟨rfl, rfl⟩
        go_wp2
        go_ret
        exact ⟨(ret_int (by have h74 := HQ74.out; subst h74; rfl)), HB8.out⟩
      · skip
        go_enter Try.func112, Try.ntmps112
        go_wp2_with fail
        have HB0 : Hid (Below w.heap.size w (w.alloc (.cells #[.bool true, .slice A1 n1 c1, .slice A2 n2 c2] 108))) := Lib.hid ((Below.refl _ _).alloc (Nat.le_refl _) _)
        refine (rsign_any true A1 A2 n1 c1 n2 c2 N _ (by omega) (H1.out.next HB0.out)).mono ?_
        rintro e1 w1 ⟨rfl, hb1⟩
        rw [HG.out]
        have r1 := (hb1.cell (p := ⟨w.heap.size, 1, none⟩) (by simp)).trans (show _ = some (.slice A1 n1 c1) from by simp [go_sem])
        have r2 := (hb1.cell (p := ⟨w.heap.size, 2, none⟩) (by simp)).trans (show _ = some (.slice A2 n2 c2) from by simp [go_sem])
        have HB1 := Lib.hid (below_then HB0.out hb1); clear hb1
        go_wp2_with fail
        refine (len_any A1 n1 c1 N _ (by omega) (H1.out.next HB1.out)).mono ?_
        rintro e2 w' ⟨rfl, rfl⟩
        go_wp2_with fail
        refine (len_any A2 n2 c2 D _ (by omega) (H2.out.next HB1.out)).mono ?_
        rintro e3 w' ⟨rfl, rfl⟩
        clear r1 r2
        go_wp2_with fail
        refine (left_any A1 n1 c1 N k _ (by omega) (by omega) (H1.out.next HB1.out)).mono ?_
        rintro e4 w2 ⟨A4, c4, rfl, p1, _, p3⟩
        have HM2 := Lib.hid p1; have HN2 := Lib.hid ((H1.out.next HB1.out).next p3); have HD2 := Lib.hid ((H2.out.next HB1.out).next p3); have HB2 := Lib.hid (below_then HB1.out p3)
        clear p1 p3
        go_wp2_with fail
        refine (cmp_any A4 A2 _ c4 n2 c2 (N * 2 ^ k) D _ (by have := wk.out; omega) (by omega) HM2.out HD2.out).mono ?_
        rintro e5 w3 ⟨rfl, p3⟩
        rw [HCC.out]
        have HN3 := Lib.hid (HN2.out.next p3); have HD3 := Lib.hid (HD2.out.next p3); have HB3 := Lib.hid (below_then HB2.out p3)
        clear p3 HM2 HN2 HD2
        go_wp2_with fail
        refine (left_lit A1 n1 c1 N q HQ74.out _ (by omega) (by omega) HN3.out).mono ?_
        rintro e6 w5 ⟨A5, c5, rfl, p1, _, p3⟩
        have HM5 := Lib.hid p1; have HD5 := Lib.hid (HD3.out.next p3); have HBx := Lib.hid (below_then HB3.out p3)
        clear p1 p3
        go_wp2_with fail
        refine (by_any A5 A2 _ _ _ _ (N * 2 ^ q) D _ (by have := wm.out; omega) (by have := l2; omega) HD0.out HM5.out HD5.out).mono ?_
        rintro e7 w6 ⟨A6, c6, A7, c7, rfl, p1, p2, _, _, p3⟩
        rw [HQ.out] at p1 ⊢
        rw [HR.out] at p2 ⊢
        have HM6 := Lib.hid (Hid.out (Lib.hid HD5.out) |>.next p3)
        have HB6 := Lib.hid (below_then HBx.out p3)
        have HS6 := Lib.hid p1; have HZ6 := Lib.hid p2
        clear p1 p2 p3
        go_wp2_with fail
        refine (word_any A6 _ c6 sig _ (by have := hw2.out; omega) hw2.out HS6.out).mono ?_
        rintro e8 w' ⟨rfl, rfl⟩
        go_wp2_with fail
        refine (left_any A7 _ c7 0 1 _ (by simp [hw00]) (by simp [hw00]) HZ6.out).mono ?_
        rintro e9 w7 ⟨A8, c8, rfl, p1, _, p3⟩
        rw [Nat.zero_mul] at p1 ⊢
        have HZ7 := Lib.hid p1; have HM7 := Lib.hid (HM6.out.next p3); have HB7 := Lib.hid (below_then HB6.out p3)
        clear p1 p3
        go_wp2_with fail
        refine (cmp_any A8 A2 _ c8 _ _ 0 D _ (by simp [hw00]) (by have := l2; omega) HZ7.out HM7.out).mono ?_
        rintro e10 w8 ⟨rfl, p3⟩
        rw [cmpN_lt (Nat.pos_of_ne_zero HD0.out)]
        have HB8 := Lib.hid (below_then HB7.out p3)
        clear p3
        go_wp2_with fail
        refine (made_small true sig (-1074) hs0 hsl.out he1 he2 _).mono ?_
        rintro e11 w' ⟨rfl, rfl⟩
        go_wp2
        go_ret
        exact ⟨(ret_int (by have h74 := HQ74.out; subst h74; rfl)), HB8.out⟩

end Go.Proofs.Ytamaeggkpdgaiaa
