/- The walk of the reference's rounding of a ratio that is a number already. -/
import Derived.Test.YtamaeggkpdgaiaaNo
import Derived.Test.YtamaeggkpdgaiaaWc
namespace Go.Proofs.Ytamaeggkpdgaiaa
open Go.RowKit

theorem numP_eq {w w' : World} {N M : Nat} {e : Ending} (h : NumP w N e w') (he : N = M) : NumP w M e w' := he ▸ h

theorem wN_mul_pow {N n q c : Nat} (h : N < 4294967296 ^ n) (hq : q < 32 * c) : wN (N * 2 ^ q) ≤ n + c := wN_le.2 (by
  rw [Nat.pow_add, pow32 c]
  exact Nat.mul_lt_mul'' h (Nat.pow_lt_pow_right (by decide) hq))

set_option maxRecDepth 100000 in
set_option maxHeartbeats 1000000 in
theorem rounded_int (d : Int) (s : Bool) (A1 A2 : Option Addr) (n1 c1 n2 c2 N D sig : Nat) (f e : Int) (w : World) (hd : d = 1 ∨ d = -1) (l1 : n1 ≤ 4294967296) (l2 : n2 ≤ 4294967296) (h1 : NumR w w.heap.size A1 n1 N) (h2 : NumR w w.heap.size A2 n2 D)
    (hN : N ≠ 0) (hD : D ≠ 0) (hf : (lenN N : Int) - (lenN D : Int) = f) (hf0 : 0 ≤ f) (hf1 : f ≤ 1023) (hc : D * 2 ^ f.toNat ≤ N) (he : f - 52 = e) (he0 : 0 ≤ e) (hs0 : 0 < sig) (hs : sig < 9007199254740992) (hex : N = sig * (D * 2 ^ e.toNat)) :
    Calls Try.prog 112 #[.int .i64 d, .agg #[.bool s, .slice A1 n1 c1, .slice A2 n2 c2], .int .i64 53, .int .i64 1023] w fun en w' => en = .returned (.int .u64 (madeD s sig e)) ∧ Below w.heap.size w w' := by
  have H1 := Lib.hid h1; have H2 := Lib.hid h2; clear h1 h2
  have hG : rsg s N = if s then -1 else 1 := by unfold rsg; rw [if_neg hN]
  have HG := Lib.hid hG; clear hG
  have HD0' := Lib.hid hD; have HN0 := Lib.hid hN
  obtain ⟨k, hk⟩ : ∃ k : Nat, f = (k : Int) := ⟨f.toNat, by omega⟩
  obtain ⟨q, hq⟩ : ∃ q : Nat, e = (q : Int) := ⟨e.toNat, by omega⟩
  subst hk hq
  have ek : ((k : Int)).toNat = k := rfl
  have eq : ((q : Int)).toNat = q := rfl
  rw [ek] at hc
  rw [eq] at hex
  have hcm : 0 ≤ cmpN N (D * 2 ^ k) := by unfold cmpN; rw [if_neg (by omega)]; split <;> omega
  generalize hcc : cmpN N (D * 2 ^ k) = cc at *
  have HCC := Lib.hid hcc
  have w1' := H1.out.words; have w2' := H2.out.words
  have hM0 : D * 2 ^ q ≠ 0 := Nat.mul_ne_zero hD (Nat.ne_of_gt (Nat.two_pow_pos q))
  have HD0 := Lib.hid hM0
  have HQ : Hid (N / (D * 2 ^ q) = sig) := Lib.hid (by rw [hex, Nat.mul_div_cancel _ (Nat.pos_of_ne_zero hM0)])
  have HR : Hid (N % (D * 2 ^ q) = 0) := Lib.hid (by rw [hex]; exact Nat.mul_mod_left _ _)
  have hw2 : Hid (wN sig ≤ 2) := Lib.hid (wN_le.2 (by simp; omega))
  have hsl := Lib.hid hs
  have he1 : -1074 ≤ (q : Int) := by omega
  have heq : (k : Int) - 53 + 1 = (q : Int) := by omega
  have hkb : k < 1024 := by omega
  have hqb : q < 992 := by omega
  have he2 : (q : Int) ≤ 971 := by omega
  have hw00 : wN 0 = 0 := rfl
  have hne53 : ((sig : Int) == 9007199254740992) = false := by simp; omega
  have wm : Hid (wN (D * 2 ^ q) ≤ n2 + 31) := Lib.hid (wN_mul_pow H2.out.1 (by omega))
  have wk : Hid (wN (D * 2 ^ k) ≤ n2 + 32) := Lib.hid (wN_mul_pow H2.out.1 (by omega))
  clear hex hM0 hcc hs hc hN hD
  rcases hd with rfl | rfl
  · cases s
    · skip
      go_enter Try.func112, Try.ntmps112
      go_wp2_with fail
      have HB0 : Hid (Below w.heap.size w (w.alloc (.cells #[.bool false, .slice A1 n1 c1, .slice A2 n2 c2] 108))) := Lib.hid ((Below.refl _ _).alloc (Nat.le_refl _) _)
      refine (rsign_any false A1 A2 n1 c1 n2 c2 N _ (by omega) (H1.out.next HB0.out)).mono ?_
      rintro e1 w1 ⟨rfl, hb1⟩
      rw [HG.out]
      have r1 := (hb1.cell (p := ⟨w.heap.size, 1, none⟩) (by simp)).trans (show _ = some (.slice A1 n1 c1) from by simp [go_sem])
      have r2 := (hb1.cell (p := ⟨w.heap.size, 2, none⟩) (by simp)).trans (show _ = some (.slice A2 n2 c2) from by simp [go_sem])
      have HB1 := Lib.hid (below_then HB0.out hb1); clear hb1
      go_wp2_with fail
      refine (len_any A1 n1 c1 N _ (by omega) (H1.out.next HB1.out)).mono ?_
      rintro e2 w' ⟨rfl, rfl⟩
      go_wp2_with fail
      refine (len_any A2 n2 c2 D _ (by omega) (H2.out.next HB1.out)).mono ?_
      rintro e3 w' ⟨rfl, rfl⟩
      clear r1 r2
      go_wp2_with fail
      refine (left_any A2 n2 c2 D k _ (by omega) (by omega) (H2.out.next HB1.out)).mono ?_
      rintro e4 w2 ⟨A4, c4, rfl, p1, _, p3⟩
      have HM2 := Lib.hid p1; have HN2 := Lib.hid ((H1.out.next HB1.out).next p3); have HD2 := Lib.hid ((H2.out.next HB1.out).next p3); have HB2 := Lib.hid (below_then HB1.out p3)
      clear p1 p3
      go_wp2_with fail
      refine (cmp_any A1 A4 n1 c1 _ c4 N (D * 2 ^ k) _ (by omega) (by have := wk.out; omega) HN2.out HM2.out).mono ?_
      rintro e5 w3 ⟨rfl, p3⟩
      rw [HCC.out]
      have HN3 := Lib.hid (HN2.out.next p3); have HD3 := Lib.hid (HD2.out.next p3); have HB3 := Lib.hid (below_then HB2.out p3)
      clear p3 HM2 HN2 HD2
      go_wp2_with fail
      refine (left_any A2 n2 c2 D q _ (by omega) (by omega) HD3.out).mono ?_
      rintro e6 w5 ⟨A5, c5, rfl, p1, _, p3⟩
      have HM5 := Lib.hid p1; have HN5 := Lib.hid (HN3.out.next p3); have HBx := Lib.hid (below_then HB3.out p3)
      clear p1 p3
      go_wp2_with fail
      refine (by_any A1 A5 _ _ _ _ N (D * 2 ^ q) _ (by have := l1; omega) (by have := wm.out; omega) HD0.out HN5.out HM5.out).mono ?_
      rintro e7 w6 ⟨A6, c6, A7, c7, rfl, p1, p2, _, _, p3⟩
      rw [HQ.out] at p1 ⊢
      rw [HR.out] at p2 ⊢
      have HM6 := Lib.hid (Hid.out (Lib.hid HM5.out) |>.next p3)
      have HB6 := Lib.hid (below_then HBx.out p3)
      have HS6 := Lib.hid p1; have HZ6 := Lib.hid p2
      clear p1 p2 p3
      go_wp2_with fail
      refine (word_any A6 _ c6 sig _ (by have := hw2.out; omega) hw2.out HS6.out).mono ?_
      rintro e8 w' ⟨rfl, rfl⟩
      go_wp2_with fail
      refine (left_any A7 _ c7 0 1 _ (by simp [hw00]) (by simp [hw00]) HZ6.out).mono ?_
      rintro e9 w7 ⟨A8, c8, rfl, p1, _, p3⟩
      rw [Nat.zero_mul] at p1 ⊢
      have HZ7 := Lib.hid p1; have HM7 := Lib.hid (HM6.out.next p3); have HB7 := Lib.hid (below_then HB6.out p3)
      clear p1 p3
      go_wp2_with fail
      refine (cmp_any A8 A5 _ c8 _ _ 0 (D * 2 ^ q) _ (by simp [hw00]) (by have := wm.out; omega) HZ7.out HM7.out).mono ?_
      rintro e10 w8 ⟨rfl, p3⟩
      rw [cmpN_lt (Nat.pos_of_ne_zero HD0.out)]
      have HB8 := Lib.hid (below_then HB7.out p3)
      clear p3
      go_wp2_with fail
      refine (made_small false sig (q : Int) hs0 hsl.out he1 he2 _).mono ?_
      rintro e11 w' ⟨rfl, rfl⟩
      go_wp2
      go_ret
      exact ⟨rfl, HB8.out⟩
    · skip
      go_enter Try.func112, Try.ntmps112
      go_wp2_with fail
      have HB0 : Hid (Below w.heap.size w (w.alloc (.cells #[.bool true, .slice A1 n1 c1, .slice A2 n2 c2] 108))) := Lib.hid ((Below.refl _ _).alloc (Nat.le_refl _) _)
      refine (rsign_any true A1 A2 n1 c1 n2 c2 N _ (by omega) (H1.out.next HB0.out)).mono ?_
      rintro e1 w1 ⟨rfl, hb1⟩
      rw [HG.out]
      have r1 := (hb1.cell (p := ⟨w.heap.size, 1, none⟩) (by simp)).trans (show _ = some (.slice A1 n1 c1) from by simp [go_sem])
      have r2 := (hb1.cell (p := ⟨w.heap.size, 2, none⟩) (by simp)).trans (show _ = some (.slice A2 n2 c2) from by simp [go_sem])
      have HB1 := Lib.hid (below_then HB0.out hb1); clear hb1
      go_wp2_with fail
      refine (len_any A1 n1 c1 N _ (by omega) (H1.out.next HB1.out)).mono ?_
      rintro e2 w' ⟨rfl, rfl⟩
      go_wp2_with fail
      refine (len_any A2 n2 c2 D _ (by omega) (H2.out.next HB1.out)).mono ?_
      rintro e3 w' ⟨rfl, rfl⟩
      clear r1 r2
      go_wp2_with fail
      refine (left_any A2 n2 c2 D k _ (by omega) (by omega) (H2.out.next HB1.out)).mono ?_
      rintro e4 w2 ⟨A4, c4, rfl, p1, _, p3⟩
      have HM2 := Lib.hid p1; have HN2 := Lib.hid ((H1.out.next HB1.out).next p3); have HD2 := Lib.hid ((H2.out.next HB1.out).next p3); have HB2 := Lib.hid (below_then HB1.out p3)
      clear p1 p3
      go_wp2_with fail
      refine (cmp_any A1 A4 n1 c1 _ c4 N (D * 2 ^ k) _ (by omega) (by have := wk.out; omega) HN2.out HM2.out).mono ?_
      rintro e5 w3 ⟨rfl, p3⟩
      rw [HCC.out]
      have HN3 := Lib.hid (HN2.out.next p3); have HD3 := Lib.hid (HD2.out.next p3); have HB3 := Lib.hid (below_then HB2.out p3)
      clear p3 HM2 HN2 HD2
      go_wp2_with fail
      refine (left_any A2 n2 c2 D q _ (by omega) (by omega) HD3.out).mono ?_
      rintro e6 w5 ⟨A5, c5, rfl, p1, _, p3⟩
      have HM5 := Lib.hid p1; have HN5 := Lib.hid (HN3.out.next p3); have HBx := Lib.hid (below_then HB3.out p3)
      clear p1 p3
      go_wp2_with fail
      refine (by_any A1 A5 _ _ _ _ N (D * 2 ^ q) _ (by have := l1; omega) (by have := wm.out; omega) HD0.out HN5.out HM5.out).mono ?_
      rintro e7 w6 ⟨A6, c6, A7, c7, rfl, p1, p2, _, _, p3⟩
      rw [HQ.out] at p1 ⊢
      rw [HR.out] at p2 ⊢
      have HM6 := Lib.hid (Hid.out (Lib.hid HM5.out) |>.next p3)
      have HB6 := Lib.hid (below_then HBx.out p3)
      have HS6 := Lib.hid p1; have HZ6 := Lib.hid p2
      clear p1 p2 p3
      go_wp2_with fail
      refine (word_any A6 _ c6 sig _ (by have := hw2.out; omega) hw2.out HS6.out).mono ?_
      rintro e8 w' ⟨rfl, rfl⟩
      go_wp2_with fail
      refine (left_any A7 _ c7 0 1 _ (by simp [hw00]) (by simp [hw00]) HZ6.out).mono ?_
      rintro e9 w7 ⟨A8, c8, rfl, p1, _, p3⟩
      rw [Nat.zero_mul] at p1 ⊢
      have HZ7 := Lib.hid p1; have HM7 := Lib.hid (HM6.out.next p3); have HB7 := Lib.hid (below_then HB6.out p3)
      clear p1 p3
      go_wp2_with fail
      refine (cmp_any A8 A5 _ c8 _ _ 0 (D * 2 ^ q) _ (by simp [hw00]) (by have := wm.out; omega) HZ7.out HM7.out).mono ?_
      rintro e10 w8 ⟨rfl, p3⟩
      rw [cmpN_lt (Nat.pos_of_ne_zero HD0.out)]
      have HB8 := Lib.hid (below_then HB7.out p3)
      clear p3
      go_wp2_with fail
      refine (made_small true sig (q : Int) hs0 hsl.out he1 he2 _).mono ?_
      rintro e11 w' ⟨rfl, rfl⟩
      go_wp2
      go_ret
      exact ⟨rfl, HB8.out⟩
  · cases s
    · skip
      go_enter Try.func112, Try.ntmps112
      go_wp2_with fail
      have HB0 : Hid (Below w.heap.size w (w.alloc (.cells #[.bool false, .slice A1 n1 c1, .slice A2 n2 c2] 108))) := Lib.hid ((Below.refl _ _).alloc (Nat.le_refl _) _)
      refine (rsign_any false A1 A2 n1 c1 n2 c2 N _ (by omega) (H1.out.next HB0.out)).mono ?_
      rintro e1 w1 ⟨rfl, hb1⟩
      rw [HG.out]
      have r1 := (hb1.cell (p := ⟨w.heap.size, 1, none⟩) (by simp)).trans (show _ = some (.slice A1 n1 c1) from by simp [go_sem])
      have r2 := (hb1.cell (p := ⟨w.heap.size, 2, none⟩) (by simp)).trans (show _ = some (.slice A2 n2 c2) from by simp [go_sem])
      have HB1 := Lib.hid (below_then HB0.out hb1); clear hb1
      go_wp2_with fail
      refine (len_any A1 n1 c1 N _ (by omega) (H1.out.next HB1.out)).mono ?_
      rintro e2 w' ⟨rfl, rfl⟩
      go_wp2_with fail
      refine (len_any A2 n2 c2 D _ (by omega) (H2.out.next HB1.out)).mono ?_
      rintro e3 w' ⟨rfl, rfl⟩
      clear r1 r2
      go_wp2_with fail
      refine (left_any A2 n2 c2 D k _ (by omega) (by omega) (H2.out.next HB1.out)).mono ?_
      rintro e4 w2 ⟨A4, c4, rfl, p1, _, p3⟩
      have HM2 := Lib.hid p1; have HN2 := Lib.hid ((H1.out.next HB1.out).next p3); have HD2 := Lib.hid ((H2.out.next HB1.out).next p3); have HB2 := Lib.hid (below_then HB1.out p3)
      clear p1 p3
      go_wp2_with fail
      refine (cmp_any A1 A4 n1 c1 _ c4 N (D * 2 ^ k) _ (by omega) (by have := wk.out; omega) HN2.out HM2.out).mono ?_
      rintro e5 w3 ⟨rfl, p3⟩
      rw [HCC.out]
      have HN3 := Lib.hid (HN2.out.next p3); have HD3 := Lib.hid (HD2.out.next p3); have HB3 := Lib.hid (below_then HB2.out p3)
      clear p3 HM2 HN2 HD2
      go_wp2_with fail
      refine (left_any A2 n2 c2 D q _ (by omega) (by omega) HD3.out).mono ?_
      rintro e6 w5 ⟨A5, c5, rfl, p1, _, p3⟩
      have HM5 := Lib.hid p1; have HN5 := Lib.hid (HN3.out.next p3); have HBx := Lib.hid (below_then HB3.out p3)
      clear p1 p3
      go_wp2_with fail
      refine (by_any A1 A5 _ _ _ _ N (D * 2 ^ q) _ (by have := l1; omega) (by have := wm.out; omega) HD0.out HN5.out HM5.out).mono ?_
      rintro e7 w6 ⟨A6, c6, A7, c7, rfl, p1, p2, _, _, p3⟩
      rw [HQ.out] at p1 ⊢
      rw [HR.out] at p2 ⊢
      have HM6 := Lib.hid (Hid.out (Lib.hid HM5.out) |>.next p3)
      have HB6 := Lib.hid (below_then HBx.out p3)
      have HS6 := Lib.hid p1; have HZ6 := Lib.hid p2
      clear p1 p2 p3
      go_wp2_with fail
      refine (word_any A6 _ c6 sig _ (by have := hw2.out; omega) hw2.out HS6.out).mono ?_
      rintro e8 w' ⟨rfl, rfl⟩
      go_wp2_with fail
      refine (left_any A7 _ c7 0 1 _ (by simp [hw00]) (by simp [hw00]) HZ6.out).mono ?_
      rintro e9 w7 ⟨A8, c8, rfl, p1, _, p3⟩
      rw [Nat.zero_mul] at p1 ⊢
      have HZ7 := Lib.hid p1; have HM7 := Lib.hid (HM6.out.next p3); have HB7 := Lib.hid (below_then HB6.out p3)
      clear p1 p3
      go_wp2_with fail
      refine (cmp_any A8 A5 _ c8 _ _ 0 (D * 2 ^ q) _ (by simp [hw00]) (by have := wm.out; omega) HZ7.out HM7.out).mono ?_
      rintro e10 w8 ⟨rfl, p3⟩
      rw [cmpN_lt (Nat.pos_of_ne_zero HD0.out)]
      have HB8 := Lib.hid (below_then HB7.out p3)
      clear p3
      go_wp2_with fail
      refine (made_small false sig (q : Int) hs0 hsl.out he1 he2 _).mono ?_
      rintro e11 w' ⟨rfl, rfl⟩
      go_wp2
      go_ret
      exact ⟨rfl, HB8.out⟩
    · skip
      go_enter Try.func112, Try.ntmps112
      go_wp2_with fail
      have HB0 : Hid (Below w.heap.size w (w.alloc (.cells #[.bool true, .slice A1 n1 c1, .slice A2 n2 c2] 108))) := Lib.hid ((Below.refl _ _).alloc (Nat.le_refl _) _)
      refine (rsign_any true A1 A2 n1 c1 n2 c2 N _ (by omega) (H1.out.next HB0.out)).mono ?_
      rintro e1 w1 ⟨rfl, hb1⟩
      rw [HG.out]
      have r1 := (hb1.cell (p := ⟨w.heap.size, 1, none⟩) (by simp)).trans (show _ = some (.slice A1 n1 c1) from by simp [go_sem])
      have r2 := (hb1.cell (p := ⟨w.heap.size, 2, none⟩) (by simp)).trans (show _ = some (.slice A2 n2 c2) from by simp [go_sem])
      have HB1 := Lib.hid (below_then HB0.out hb1); clear hb1
      go_wp2_with fail
      refine (len_any A1 n1 c1 N _ (by omega) (H1.out.next HB1.out)).mono ?_
      rintro e2 w' ⟨rfl, rfl⟩
      go_wp2_with fail
      refine (len_any A2 n2 c2 D _ (by omega) (H2.out.next HB1.out)).mono ?_
      rintro e3 w' ⟨rfl, rfl⟩
      clear r1 r2
      go_wp2_with fail
      refine (left_any A2 n2 c2 D k _ (by omega) (by omega) (H2.out.next HB1.out)).mono ?_
      rintro e4 w2 ⟨A4, c4, rfl, p1, _, p3⟩
      have HM2 := Lib.hid p1; have HN2 := Lib.hid ((H1.out.next HB1.out).next p3); have HD2 := Lib.hid ((H2.out.next HB1.out).next p3); have HB2 := Lib.hid (below_then HB1.out p3)
      clear p1 p3
      go_wp2_with fail
      refine (cmp_any A1 A4 n1 c1 _ c4 N (D * 2 ^ k) _ (by omega) (by have := wk.out; omega) HN2.out HM2.out).mono ?_
      rintro e5 w3 ⟨rfl, p3⟩
      rw [HCC.out]
      have HN3 := Lib.hid (HN2.out.next p3); have HD3 := Lib.hid (HD2.out.next p3); have HB3 := Lib.hid (below_then HB2.out p3)
      clear p3 HM2 HN2 HD2
      go_wp2_with fail
      refine (left_any A2 n2 c2 D q _ (by omega) (by omega) HD3.out).mono ?_
      rintro e6 w5 ⟨A5, c5, rfl, p1, _, p3⟩
      have HM5 := Lib.hid p1; have HN5 := Lib.hid (HN3.out.next p3); have HBx := Lib.hid (below_then HB3.out p3)
      clear p1 p3
      go_wp2_with fail
      refine (by_any A1 A5 _ _ _ _ N (D * 2 ^ q) _ (by have := l1; omega) (by have := wm.out; omega) HD0.out HN5.out HM5.out).mono ?_
      rintro e7 w6 ⟨A6, c6, A7, c7, rfl, p1, p2, _, _, p3⟩
      rw [HQ.out] at p1 ⊢
      rw [HR.out] at p2 ⊢
      have HM6 := Lib.hid (Hid.out (Lib.hid HM5.out) |>.next p3)
      have HB6 := Lib.hid (below_then HBx.out p3)
      have HS6 := Lib.hid p1; have HZ6 := Lib.hid p2
      clear p1 p2 p3
      go_wp2_with fail
      refine (word_any A6 _ c6 sig _ (by have := hw2.out; omega) hw2.out HS6.out).mono ?_
      rintro e8 w' ⟨rfl, rfl⟩
      go_wp2_with fail
      refine (left_any A7 _ c7 0 1 _ (by simp [hw00]) (by simp [hw00]) HZ6.out).mono ?_
      rintro e9 w7 ⟨A8, c8, rfl, p1, _, p3⟩
      rw [Nat.zero_mul] at p1 ⊢
      have HZ7 := Lib.hid p1; have HM7 := Lib.hid (HM6.out.next p3); have HB7 := Lib.hid (below_then HB6.out p3)
      clear p1 p3
      go_wp2_with fail
      refine (cmp_any A8 A5 _ c8 _ _ 0 (D * 2 ^ q) _ (by simp [hw00]) (by have := wm.out; omega) HZ7.out HM7.out).mono ?_
      rintro e10 w8 ⟨rfl, p3⟩
      rw [cmpN_lt (Nat.pos_of_ne_zero HD0.out)]
      have HB8 := Lib.hid (below_then HB7.out p3)
      clear p3
      go_wp2_with fail
      refine (made_small true sig (q : Int) hs0 hsl.out he1 he2 _).mono ?_
      rintro e11 w' ⟨rfl, rfl⟩
      go_wp2
      go_ret
      exact ⟨rfl, HB8.out⟩

end Go.Proofs.Ytamaeggkpdgaiaa
