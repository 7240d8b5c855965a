/- The walks of the reference's bounds: Cmp, lesser, greater. -/
import Derived.Test.YtamaeggkpdgaiaaHa
namespace Go.Proofs.Ytamaeggkpdgaiaa
open Go.RowKit

/-- Which of two bounds is the lesser. -/
def ecmp (p q : Nat) : Int := if endI p < endI q then -1 else if endI q < endI p then 1 else if endI p = 0 then rcmpN (endS p) (endN p) (endD p) (endS q) (endN q) (endD q) else 0

set_option maxRecDepth 100000 in
set_option maxHeartbeats 1000000 in
theorem cmpE_any (p q : Nat) (A1 A2 A3 A4 : Option Addr) (c1 c2 c3 c4 : Nat) (w : World) (l1 : wN (endN p) ≤ 1099511627776) (l2 : wN (endD p) ≤ 1099511627776) (l3 : wN (endN q) ≤ 1099511627776) (l4 : wN (endD q) ≤ 1099511627776)
    (h1 : EndR w w.heap.size p A1 A2) (h2 : EndR w w.heap.size q A3 A4) :
    Calls Try.prog 130 #[.agg #[.int .i64 (endI p), .bool (endS p), .slice A1 (wN (endN p)) c1, .slice A2 (wN (endD p)) c2], .agg #[.int .i64 (endI q), .bool (endS q), .slice A3 (wN (endN q)) c3, .slice A4 (wN (endD q)) c4]] w
      fun e w' => e = .returned (.int .i64 (ecmp p q)) ∧ Below w.heap.size w w' := by
  have H1 := Lib.hid h1; have H2 := Lib.hid h2; clear h1 h2
  have hE : Hid (ecmp p q = if endI p < endI q then -1 else if endI q < endI p then 1 else if endI p = 0 then rcmpN (endS p) (endN p) (endD p) (endS q) (endN q) (endD q) else 0) := Lib.hid rfl
  have h1N := Lib.hid H1.out.1; have h1D := Lib.hid H1.out.2; have h2N := Lib.hid H2.out.1; have h2D := Lib.hid H2.out.2
  clear H1 H2
  generalize ecmp p q = E at *
  generalize endI p = i at *
  generalize endI q = j at *
  generalize endS p = s1 at *
  generalize endS q = s2 at *
  generalize endN p = N1 at *
  generalize endN q = N2 at *
  generalize endD p = D1 at *
  generalize endD q = D2 at *
  generalize hn1 : wN N1 = n1 at *
  generalize hn2 : wN D1 = n2 at *
  generalize hn3 : wN N2 = n3 at *
  generalize hn4 : wN D2 = n4 at *
  clear hn1 hn2 hn3 hn4
  have HB0 : Hid (Below w.heap.size w ((w.alloc (.cells #[.int .i64 i, .bool s1, .slice A1 n1 c1, .slice A2 n2 c2] 110)).alloc (.cells #[.int .i64 j, .bool s2, .slice A3 n3 c3, .slice A4 n4 c4] 110))) := Lib.hid (((Below.refl _ _).alloc (Nat.le_refl _) _).alloc (by simp) _)
  rcases Int.lt_trichotomy i j with hlt | heq | hgt
  · have t1 : (i == j) = false := by simp; omega
    go_enter Try.func130, Try.ntmps130
    go_wp2
    go_ret
    exact ⟨ret_int (by rw [hE.out, if_pos hlt]), HB0.out⟩
  · subst heq
    cases hz : (i == 0)
    case false =>
      have HZ := Lib.hid hz
      go_enter Try.func130, Try.ntmps130
      go_wp2
      go_ret
      exact ⟨ret_int (by rw [hE.out, if_neg (by omega), if_neg (by omega), if_neg (by have := HZ.out; simpa using this)]), HB0.out⟩
    case true =>
      have hi0 : i = 0 := by simpa using hz
      subst hi0
      clear hz
      go_enter Try.func130, Try.ntmps130
      go_wp2_with fail
      refine (rcmp_any s1 s2 A1 A2 A3 A4 n1 c1 n2 c2 n3 c3 n4 c4 N1 D1 N2 D2 _ l1 l2 l3 l4 (h1N.out.next HB0.out) (h1D.out.next HB0.out) (h2N.out.next HB0.out) (h2D.out.next HB0.out)).mono ?_
      rintro e1 w1 ⟨rfl, hb⟩
      have HB1 := Lib.hid (below_then HB0.out hb); clear hb
      have hE2 : Hid (E = rcmpN s1 N1 D1 s2 N2 D2) := Lib.hid (by rw [hE.out]; simp)
      clear hE
      generalize rcmpN s1 N1 D1 s2 N2 D2 = c at *
      go_wp2
      go_ret
      exact ⟨ret_int hE2.out.symm, HB1.out⟩
  · have t1 : (i == j) = false := by simp; omega
    go_enter Try.func130, Try.ntmps130
    go_wp2
    go_ret
    exact ⟨ret_int (by rw [hE.out, if_neg (by omega), if_pos hgt]), HB0.out⟩

/-- The lesser, the greater of two bounds. -/
def minE (p q : Nat) : Nat := if ecmp q p < 0 then q else p
def maxE (p q : Nat) : Nat := if 0 < ecmp q p then q else p
set_option maxRecDepth 100000 in
set_option maxHeartbeats 2000000 in
theorem lesser_any (p q : Nat) (A1 A2 A3 A4 : Option Addr) (c1 c2 c3 c4 : Nat) (w : World) (l1 : wN (endN p) ≤ 1099511627776) (l2 : wN (endD p) ≤ 1099511627776) (l3 : wN (endN q) ≤ 1099511627776) (l4 : wN (endD q) ≤ 1099511627776)
    (h1 : EndR w w.heap.size p A1 A2) (h2 : EndR w w.heap.size q A3 A4) :
    Calls Try.prog 101 #[.agg #[.int .i64 (endI p), .bool (endS p), .slice A1 (wN (endN p)) c1, .slice A2 (wN (endD p)) c2], .agg #[.int .i64 (endI q), .bool (endS q), .slice A3 (wN (endN q)) c3, .slice A4 (wN (endD q)) c4]] w
      fun e w' => EndP w (minE p q) e w' := by
  have H1 := Lib.hid h1; have H2 := Lib.hid h2; clear h1 h2
  have HB0 : Hid (Below w.heap.size w (((w.alloc (.cells #[.int .i64 (endI p), .bool (endS p), .slice A1 (wN (endN p)) c1, .slice A2 (wN (endD p)) c2] 110)).alloc (.cells #[.int .i64 (endI q), .bool (endS q), .slice A3 (wN (endN q)) c3, .slice A4 (wN (endD q)) c4] 110)).alloc (.cells #[.int .i64 0, .bool false, .slice none 0 0, .slice none 0 0] 110))) := Lib.hid ((((Below.refl _ _).alloc (Nat.le_refl _) _).alloc (by simp) _).alloc (by simp; omega) _)
  cases hc : decide (ecmp q p < 0)
  case false =>
    have HC := Lib.hid hc
    have hcl := hc
    simp at hcl
    clear hc
    go_enter Try.func101, Try.ntmps101
    go_wp2_with fail
    refine (cmpE_any q p A3 A4 A1 A2 c3 c4 c1 c2 _ l3 l4 l1 l2 (H2.out.next HB0.out) (H1.out.next HB0.out)).mono ?_
    rintro e1 w1 ⟨rfl, hb⟩
    have HB1 : Hid (Below (w.heap.size + 3) (((w.alloc (.cells #[.int .i64 (endI p), .bool (endS p), .slice A1 (wN (endN p)) c1, .slice A2 (wN (endD p)) c2] 110)).alloc (.cells #[.int .i64 (endI q), .bool (endS q), .slice A3 (wN (endN q)) c3, .slice A4 (wN (endD q)) c4] 110)).alloc (.cells #[.int .i64 0, .bool false, .slice none 0 0, .slice none 0 0] 110)) w1) := Lib.hid (hb.mono (by simp))
    have HE : Hid (EndR w1 w1.heap.size p A1 A2 ∧ EndR w1 w1.heap.size q A3 A4) := Lib.hid ⟨(H1.out.next HB0.out).next hb, (H2.out.next HB0.out).next hb⟩
    have hs1 : w.heap.size + 3 ≤ w1.heap.size := by have := hb.size; simpa using this
    clear hb
    have a0 := (HB1.out.cell (p := ⟨w.heap.size, 0, none⟩) (by simp)).trans (show _ = some (.int .i64 (endI p)) from by simp [go_sem])
    have a1 := (HB1.out.cell (p := ⟨w.heap.size, 1, none⟩) (by simp)).trans (show _ = some (.bool (endS p)) from by simp [go_sem])
    have a2 := (HB1.out.cell (p := ⟨w.heap.size, 2, none⟩) (by simp)).trans (show _ = some (.slice A1 (wN (endN p)) c1) from by simp [go_sem])
    have a3 := (HB1.out.cell (p := ⟨w.heap.size, 3, none⟩) (by simp)).trans (show _ = some (.slice A2 (wN (endD p)) c2) from by simp [go_sem])
    have b0 := (HB1.out.cell (p := ⟨w.heap.size + 1, 0, none⟩) (by simp)).trans (show _ = some (.int .i64 (endI q)) from by simp [go_sem])
    have b1 := (HB1.out.cell (p := ⟨w.heap.size + 1, 1, none⟩) (by simp)).trans (show _ = some (.bool (endS q)) from by simp [go_sem])
    have b2 := (HB1.out.cell (p := ⟨w.heap.size + 1, 2, none⟩) (by simp)).trans (show _ = some (.slice A3 (wN (endN q)) c3) from by simp [go_sem])
    have b3 := (HB1.out.cell (p := ⟨w.heap.size + 1, 3, none⟩) (by simp)).trans (show _ = some (.slice A4 (wN (endD q)) c4) from by simp [go_sem])
    have r0 := (HB1.out.cell (p := ⟨w.heap.size + 2, 0, none⟩) (by simp)).trans (show _ = some (.int .i64 0) from by simp [go_sem])
    have r1 := (HB1.out.cell (p := ⟨w.heap.size + 2, 1, none⟩) (by simp)).trans (show _ = some (.bool false) from by simp [go_sem])
    have r2 := (HB1.out.cell (p := ⟨w.heap.size + 2, 2, none⟩) (by simp)).trans (show _ = some (.slice none 0 0) from by simp [go_sem])
    have r3 := (HB1.out.cell (p := ⟨w.heap.size + 2, 3, none⟩) (by simp)).trans (show _ = some (.slice none 0 0) from by simp [go_sem])
    have x0 := (HB1.out.frozen (p := ⟨w.heap.size + 2, 0, none⟩) (by simp)).trans (show _ = false from by simp [go_sem])
    have x1 := (HB1.out.frozen (p := ⟨w.heap.size + 2, 1, none⟩) (by simp)).trans (show _ = false from by simp [go_sem])
    have x2 := (HB1.out.frozen (p := ⟨w.heap.size + 2, 2, none⟩) (by simp)).trans (show _ = false from by simp [go_sem])
    have x3 := (HB1.out.frozen (p := ⟨w.heap.size + 2, 3, none⟩) (by simp)).trans (show _ = false from by simp [go_sem])
    have hk : Hid (w1.heap[w.heap.size + 2]? = some (.cells #[.int .i64 0, .bool false, .slice none 0 0, .slice none 0 0] 110 (0, 0))) := Lib.hid (by
      rw [HB1.out.block (w.heap.size + 2) (by omega)]
      have := heap_alloc_new ((w.alloc (.cells #[.int .i64 (endI p), .bool (endS p), .slice A1 (wN (endN p)) c1, .slice A2 (wN (endD p)) c2] 110)).alloc (.cells #[.int .i64 (endI q), .bool (endS q), .slice A3 (wN (endN q)) c3, .slice A4 (wN (endD q)) c4] 110)) (.cells #[.int .i64 0, .bool false, .slice none 0 0, .slice none 0 0] 110)
      simpa using this)
    have hz0 : w.heap.size < w1.heap.size := by omega
    have hz1 : w.heap.size + 1 < w1.heap.size := by omega
    have hz2 : w.heap.size + 2 < w1.heap.size := by omega
    have HX : Hid (∀ (i : Nat) (z : Int), (#[.int .i64 0, .bool false, .slice none 0 0, .slice none 0 0] : Array Value)[i]? ≠ some (Value.int IntKind.u32 z)) := Lib.hid (by
      intro i z hi
      match i, hi with
      | 0, hi => simp at hi
      | 1, hi => simp at hi
      | 2, hi => simp at hi
      | 3, hi => simp at hi
      | q + 4, hi => simp at hi)
    generalize hEe : ecmp q p = E at *
    have HEe := Lib.hid hEe; clear hEe
    go_wp2
    refine bodyPost_ret (v := .agg #[.int .i64 (endI p), .bool (endS p), .slice A1 (wN (endN p)) c1, .slice A2 (wN (endD p)) c2]) (by simp [results, Try.results101, go_sem, *]) rfl ?_
    rw [show minE p q = p from by unfold minE; rw [HEe.out]; exact if_neg (of_decide_eq_false HC.out)]
    refine ⟨A1, c1, A2, c2, rfl, ?_, below_set4 (HB0.out.trans (HB1.out.mono (by omega))) (by omega)⟩
    simpa using HE.out.1.set4 (HE.out.1.1.not_in hk.out HX.out) (HE.out.1.2.not_in hk.out HX.out)
  case true =>
    have HC := Lib.hid hc
    have hcl := hc
    simp at hcl
    clear hc
    go_enter Try.func101, Try.ntmps101
    go_wp2_with fail
    refine (cmpE_any q p A3 A4 A1 A2 c3 c4 c1 c2 _ l3 l4 l1 l2 (H2.out.next HB0.out) (H1.out.next HB0.out)).mono ?_
    rintro e1 w1 ⟨rfl, hb⟩
    have HB1 : Hid (Below (w.heap.size + 3) (((w.alloc (.cells #[.int .i64 (endI p), .bool (endS p), .slice A1 (wN (endN p)) c1, .slice A2 (wN (endD p)) c2] 110)).alloc (.cells #[.int .i64 (endI q), .bool (endS q), .slice A3 (wN (endN q)) c3, .slice A4 (wN (endD q)) c4] 110)).alloc (.cells #[.int .i64 0, .bool false, .slice none 0 0, .slice none 0 0] 110)) w1) := Lib.hid (hb.mono (by simp))
    have HE : Hid (EndR w1 w1.heap.size p A1 A2 ∧ EndR w1 w1.heap.size q A3 A4) := Lib.hid ⟨(H1.out.next HB0.out).next hb, (H2.out.next HB0.out).next hb⟩
    have hs1 : w.heap.size + 3 ≤ w1.heap.size := by have := hb.size; simpa using this
    clear hb
    have a0 := (HB1.out.cell (p := ⟨w.heap.size, 0, none⟩) (by simp)).trans (show _ = some (.int .i64 (endI p)) from by simp [go_sem])
    have a1 := (HB1.out.cell (p := ⟨w.heap.size, 1, none⟩) (by simp)).trans (show _ = some (.bool (endS p)) from by simp [go_sem])
    have a2 := (HB1.out.cell (p := ⟨w.heap.size, 2, none⟩) (by simp)).trans (show _ = some (.slice A1 (wN (endN p)) c1) from by simp [go_sem])
    have a3 := (HB1.out.cell (p := ⟨w.heap.size, 3, none⟩) (by simp)).trans (show _ = some (.slice A2 (wN (endD p)) c2) from by simp [go_sem])
    have b0 := (HB1.out.cell (p := ⟨w.heap.size + 1, 0, none⟩) (by simp)).trans (show _ = some (.int .i64 (endI q)) from by simp [go_sem])
    have b1 := (HB1.out.cell (p := ⟨w.heap.size + 1, 1, none⟩) (by simp)).trans (show _ = some (.bool (endS q)) from by simp [go_sem])
    have b2 := (HB1.out.cell (p := ⟨w.heap.size + 1, 2, none⟩) (by simp)).trans (show _ = some (.slice A3 (wN (endN q)) c3) from by simp [go_sem])
    have b3 := (HB1.out.cell (p := ⟨w.heap.size + 1, 3, none⟩) (by simp)).trans (show _ = some (.slice A4 (wN (endD q)) c4) from by simp [go_sem])
    have r0 := (HB1.out.cell (p := ⟨w.heap.size + 2, 0, none⟩) (by simp)).trans (show _ = some (.int .i64 0) from by simp [go_sem])
    have r1 := (HB1.out.cell (p := ⟨w.heap.size + 2, 1, none⟩) (by simp)).trans (show _ = some (.bool false) from by simp [go_sem])
    have r2 := (HB1.out.cell (p := ⟨w.heap.size + 2, 2, none⟩) (by simp)).trans (show _ = some (.slice none 0 0) from by simp [go_sem])
    have r3 := (HB1.out.cell (p := ⟨w.heap.size + 2, 3, none⟩) (by simp)).trans (show _ = some (.slice none 0 0) from by simp [go_sem])
    have x0 := (HB1.out.frozen (p := ⟨w.heap.size + 2, 0, none⟩) (by simp)).trans (show _ = false from by simp [go_sem])
    have x1 := (HB1.out.frozen (p := ⟨w.heap.size + 2, 1, none⟩) (by simp)).trans (show _ = false from by simp [go_sem])
    have x2 := (HB1.out.frozen (p := ⟨w.heap.size + 2, 2, none⟩) (by simp)).trans (show _ = false from by simp [go_sem])
    have x3 := (HB1.out.frozen (p := ⟨w.heap.size + 2, 3, none⟩) (by simp)).trans (show _ = false from by simp [go_sem])
    have hk : Hid (w1.heap[w.heap.size + 2]? = some (.cells #[.int .i64 0, .bool false, .slice none 0 0, .slice none 0 0] 110 (0, 0))) := Lib.hid (by
      rw [HB1.out.block (w.heap.size + 2) (by omega)]
      have := heap_alloc_new ((w.alloc (.cells #[.int .i64 (endI p), .bool (endS p), .slice A1 (wN (endN p)) c1, .slice A2 (wN (endD p)) c2] 110)).alloc (.cells #[.int .i64 (endI q), .bool (endS q), .slice A3 (wN (endN q)) c3, .slice A4 (wN (endD q)) c4] 110)) (.cells #[.int .i64 0, .bool false, .slice none 0 0, .slice none 0 0] 110)
      simpa using this)
    have hz0 : w.heap.size < w1.heap.size := by omega
    have hz1 : w.heap.size + 1 < w1.heap.size := by omega
    have hz2 : w.heap.size + 2 < w1.heap.size := by omega
    have HX : Hid (∀ (i : Nat) (z : Int), (#[.int .i64 0, .bool false, .slice none 0 0, .slice none 0 0] : Array Value)[i]? ≠ some (Value.int IntKind.u32 z)) := Lib.hid (by
      intro i z hi
      match i, hi with
      | 0, hi => simp at hi
      | 1, hi => simp at hi
      | 2, hi => simp at hi
      | 3, hi => simp at hi
      | q + 4, hi => simp at hi)
    generalize hEe : ecmp q p = E at *
    have HEe := Lib.hid hEe; clear hEe
    go_wp2
    refine bodyPost_ret (v := .agg #[.int .i64 (endI q), .bool (endS q), .slice A3 (wN (endN q)) c3, .slice A4 (wN (endD q)) c4]) (by simp [results, Try.results101, go_sem, *]) rfl ?_
    rw [show minE p q = q from by unfold minE; rw [HEe.out]; exact if_pos (of_decide_eq_true HC.out)]
    refine ⟨A3, c3, A4, c4, rfl, ?_, below_set4 (HB0.out.trans (HB1.out.mono (by omega))) (by omega)⟩
    simpa using HE.out.2.set4 (HE.out.2.1.not_in hk.out HX.out) (HE.out.2.2.not_in hk.out HX.out)

set_option maxRecDepth 100000 in
set_option maxHeartbeats 2000000 in
theorem greater_any (p q : Nat) (A1 A2 A3 A4 : Option Addr) (c1 c2 c3 c4 : Nat) (w : World) (l1 : wN (endN p) ≤ 1099511627776) (l2 : wN (endD p) ≤ 1099511627776) (l3 : wN (endN q) ≤ 1099511627776) (l4 : wN (endD q) ≤ 1099511627776)
    (h1 : EndR w w.heap.size p A1 A2) (h2 : EndR w w.heap.size q A3 A4) :
    Calls Try.prog 102 #[.agg #[.int .i64 (endI p), .bool (endS p), .slice A1 (wN (endN p)) c1, .slice A2 (wN (endD p)) c2], .agg #[.int .i64 (endI q), .bool (endS q), .slice A3 (wN (endN q)) c3, .slice A4 (wN (endD q)) c4]] w
      fun e w' => EndP w (maxE p q) e w' := by
  have H1 := Lib.hid h1; have H2 := Lib.hid h2; clear h1 h2
  have HB0 : Hid (Below w.heap.size w (((w.alloc (.cells #[.int .i64 (endI p), .bool (endS p), .slice A1 (wN (endN p)) c1, .slice A2 (wN (endD p)) c2] 110)).alloc (.cells #[.int .i64 (endI q), .bool (endS q), .slice A3 (wN (endN q)) c3, .slice A4 (wN (endD q)) c4] 110)).alloc (.cells #[.int .i64 0, .bool false, .slice none 0 0, .slice none 0 0] 110))) := Lib.hid ((((Below.refl _ _).alloc (Nat.le_refl _) _).alloc (by simp) _).alloc (by simp; omega) _)
  cases hc : decide (0 < ecmp q p)
  case false =>
    have HC := Lib.hid hc
    have hcl := hc
    simp at hcl
    clear hc
    go_enter Try.func102, Try.ntmps102
    go_wp2_with fail
    refine (cmpE_any q p A3 A4 A1 A2 c3 c4 c1 c2 _ l3 l4 l1 l2 (H2.out.next HB0.out) (H1.out.next HB0.out)).mono ?_
    rintro e1 w1 ⟨rfl, hb⟩
    have HB1 : Hid (Below (w.heap.size + 3) (((w.alloc (.cells #[.int .i64 (endI p), .bool (endS p), .slice A1 (wN (endN p)) c1, .slice A2 (wN (endD p)) c2] 110)).alloc (.cells #[.int .i64 (endI q), .bool (endS q), .slice A3 (wN (endN q)) c3, .slice A4 (wN (endD q)) c4] 110)).alloc (.cells #[.int .i64 0, .bool false, .slice none 0 0, .slice none 0 0] 110)) w1) := Lib.hid (hb.mono (by simp))
    have HE : Hid (EndR w1 w1.heap.size p A1 A2 ∧ EndR w1 w1.heap.size q A3 A4) := Lib.hid ⟨(H1.out.next HB0.out).next hb, (H2.out.next HB0.out).next hb⟩
    have hs1 : w.heap.size + 3 ≤ w1.heap.size := by have := hb.size; simpa using this
    clear hb
    have a0 := (HB1.out.cell (p := ⟨w.heap.size, 0, none⟩) (by simp)).trans (show _ = some (.int .i64 (endI p)) from by simp [go_sem])
    have a1 := (HB1.out.cell (p := ⟨w.heap.size, 1, none⟩) (by simp)).trans (show _ = some (.bool (endS p)) from by simp [go_sem])
    have a2 := (HB1.out.cell (p := ⟨w.heap.size, 2, none⟩) (by simp)).trans (show _ = some (.slice A1 (wN (endN p)) c1) from by simp [go_sem])
    have a3 := (HB1.out.cell (p := ⟨w.heap.size, 3, none⟩) (by simp)).trans (show _ = some (.slice A2 (wN (endD p)) c2) from by simp [go_sem])
    have b0 := (HB1.out.cell (p := ⟨w.heap.size + 1, 0, none⟩) (by simp)).trans (show _ = some (.int .i64 (endI q)) from by simp [go_sem])
    have b1 := (HB1.out.cell (p := ⟨w.heap.size + 1, 1, none⟩) (by simp)).trans (show _ = some (.bool (endS q)) from by simp [go_sem])
    have b2 := (HB1.out.cell (p := ⟨w.heap.size + 1, 2, none⟩) (by simp)).trans (show _ = some (.slice A3 (wN (endN q)) c3) from by simp [go_sem])
    have b3 := (HB1.out.cell (p := ⟨w.heap.size + 1, 3, none⟩) (by simp)).trans (show _ = some (.slice A4 (wN (endD q)) c4) from by simp [go_sem])
    have r0 := (HB1.out.cell (p := ⟨w.heap.size + 2, 0, none⟩) (by simp)).trans (show _ = some (.int .i64 0) from by simp [go_sem])
    have r1 := (HB1.out.cell (p := ⟨w.heap.size + 2, 1, none⟩) (by simp)).trans (show _ = some (.bool false) from by simp [go_sem])
    have r2 := (HB1.out.cell (p := ⟨w.heap.size + 2, 2, none⟩) (by simp)).trans (show _ = some (.slice none 0 0) from by simp [go_sem])
    have r3 := (HB1.out.cell (p := ⟨w.heap.size + 2, 3, none⟩) (by simp)).trans (show _ = some (.slice none 0 0) from by simp [go_sem])
    have x0 := (HB1.out.frozen (p := ⟨w.heap.size + 2, 0, none⟩) (by simp)).trans (show _ = false from by simp [go_sem])
    have x1 := (HB1.out.frozen (p := ⟨w.heap.size + 2, 1, none⟩) (by simp)).trans (show _ = false from by simp [go_sem])
    have x2 := (HB1.out.frozen (p := ⟨w.heap.size + 2, 2, none⟩) (by simp)).trans (show _ = false from by simp [go_sem])
    have x3 := (HB1.out.frozen (p := ⟨w.heap.size + 2, 3, none⟩) (by simp)).trans (show _ = false from by simp [go_sem])
    have hk : Hid (w1.heap[w.heap.size + 2]? = some (.cells #[.int .i64 0, .bool false, .slice none 0 0, .slice none 0 0] 110 (0, 0))) := Lib.hid (by
      rw [HB1.out.block (w.heap.size + 2) (by omega)]
      have := heap_alloc_new ((w.alloc (.cells #[.int .i64 (endI p), .bool (endS p), .slice A1 (wN (endN p)) c1, .slice A2 (wN (endD p)) c2] 110)).alloc (.cells #[.int .i64 (endI q), .bool (endS q), .slice A3 (wN (endN q)) c3, .slice A4 (wN (endD q)) c4] 110)) (.cells #[.int .i64 0, .bool false, .slice none 0 0, .slice none 0 0] 110)
      simpa using this)
    have hz0 : w.heap.size < w1.heap.size := by omega
    have hz1 : w.heap.size + 1 < w1.heap.size := by omega
    have hz2 : w.heap.size + 2 < w1.heap.size := by omega
    have HX : Hid (∀ (i : Nat) (z : Int), (#[.int .i64 0, .bool false, .slice none 0 0, .slice none 0 0] : Array Value)[i]? ≠ some (Value.int IntKind.u32 z)) := Lib.hid (by
      intro i z hi
      match i, hi with
      | 0, hi => simp at hi
      | 1, hi => simp at hi
      | 2, hi => simp at hi
      | 3, hi => simp at hi
      | q + 4, hi => simp at hi)
    generalize hEe : ecmp q p = E at *
    have HEe := Lib.hid hEe; clear hEe
    go_wp2
    refine bodyPost_ret (v := .agg #[.int .i64 (endI p), .bool (endS p), .slice A1 (wN (endN p)) c1, .slice A2 (wN (endD p)) c2]) (by simp [results, Try.results102, go_sem, *]) rfl ?_
    rw [show maxE p q = p from by unfold maxE; rw [HEe.out]; exact if_neg (of_decide_eq_false HC.out)]
    refine ⟨A1, c1, A2, c2, rfl, ?_, below_set4 (HB0.out.trans (HB1.out.mono (by omega))) (by omega)⟩
    simpa using HE.out.1.set4 (HE.out.1.1.not_in hk.out HX.out) (HE.out.1.2.not_in hk.out HX.out)
  case true =>
    have HC := Lib.hid hc
    have hcl := hc
    simp at hcl
    clear hc
    go_enter Try.func102, Try.ntmps102
    go_wp2_with fail
    refine (cmpE_any q p A3 A4 A1 A2 c3 c4 c1 c2 _ l3 l4 l1 l2 (H2.out.next HB0.out) (H1.out.next HB0.out)).mono ?_
    rintro e1 w1 ⟨rfl, hb⟩
    have HB1 : Hid (Below (w.heap.size + 3) (((w.alloc (.cells #[.int .i64 (endI p), .bool (endS p), .slice A1 (wN (endN p)) c1, .slice A2 (wN (endD p)) c2] 110)).alloc (.cells #[.int .i64 (endI q), .bool (endS q), .slice A3 (wN (endN q)) c3, .slice A4 (wN (endD q)) c4] 110)).alloc (.cells #[.int .i64 0, .bool false, .slice none 0 0, .slice none 0 0] 110)) w1) := Lib.hid (hb.mono (by simp))
    have HE : Hid (EndR w1 w1.heap.size p A1 A2 ∧ EndR w1 w1.heap.size q A3 A4) := Lib.hid ⟨(H1.out.next HB0.out).next hb, (H2.out.next HB0.out).next hb⟩
    have hs1 : w.heap.size + 3 ≤ w1.heap.size := by have := hb.size; simpa using this
    clear hb
    have a0 := (HB1.out.cell (p := ⟨w.heap.size, 0, none⟩) (by simp)).trans (show _ = some (.int .i64 (endI p)) from by simp [go_sem])
    have a1 := (HB1.out.cell (p := ⟨w.heap.size, 1, none⟩) (by simp)).trans (show _ = some (.bool (endS p)) from by simp [go_sem])
    have a2 := (HB1.out.cell (p := ⟨w.heap.size, 2, none⟩) (by simp)).trans (show _ = some (.slice A1 (wN (endN p)) c1) from by simp [go_sem])
    have a3 := (HB1.out.cell (p := ⟨w.heap.size, 3, none⟩) (by simp)).trans (show _ = some (.slice A2 (wN (endD p)) c2) from by simp [go_sem])
    have b0 := (HB1.out.cell (p := ⟨w.heap.size + 1, 0, none⟩) (by simp)).trans (show _ = some (.int .i64 (endI q)) from by simp [go_sem])
    have b1 := (HB1.out.cell (p := ⟨w.heap.size + 1, 1, none⟩) (by simp)).trans (show _ = some (.bool (endS q)) from by simp [go_sem])
    have b2 := (HB1.out.cell (p := ⟨w.heap.size + 1, 2, none⟩) (by simp)).trans (show _ = some (.slice A3 (wN (endN q)) c3) from by simp [go_sem])
    have b3 := (HB1.out.cell (p := ⟨w.heap.size + 1, 3, none⟩) (by simp)).trans (show _ = some (.slice A4 (wN (endD q)) c4) from by simp [go_sem])
    have r0 := (HB1.out.cell (p := ⟨w.heap.size + 2, 0, none⟩) (by simp)).trans (show _ = some (.int .i64 0) from by simp [go_sem])
    have r1 := (HB1.out.cell (p := ⟨w.heap.size + 2, 1, none⟩) (by simp)).trans (show _ = some (.bool false) from by simp [go_sem])
    have r2 := (HB1.out.cell (p := ⟨w.heap.size + 2, 2, none⟩) (by simp)).trans (show _ = some (.slice none 0 0) from by simp [go_sem])
    have r3 := (HB1.out.cell (p := ⟨w.heap.size + 2, 3, none⟩) (by simp)).trans (show _ = some (.slice none 0 0) from by simp [go_sem])
    have x0 := (HB1.out.frozen (p := ⟨w.heap.size + 2, 0, none⟩) (by simp)).trans (show _ = false from by simp [go_sem])
    have x1 := (HB1.out.frozen (p := ⟨w.heap.size + 2, 1, none⟩) (by simp)).trans (show _ = false from by simp [go_sem])
    have x2 := (HB1.out.frozen (p := ⟨w.heap.size + 2, 2, none⟩) (by simp)).trans (show _ = false from by simp [go_sem])
    have x3 := (HB1.out.frozen (p := ⟨w.heap.size + 2, 3, none⟩) (by simp)).trans (show _ = false from by simp [go_sem])
    have hk : Hid (w1.heap[w.heap.size + 2]? = some (.cells #[.int .i64 0, .bool false, .slice none 0 0, .slice none 0 0] 110 (0, 0))) := Lib.hid (by
      rw [HB1.out.block (w.heap.size + 2) (by omega)]
      have := heap_alloc_new ((w.alloc (.cells #[.int .i64 (endI p), .bool (endS p), .slice A1 (wN (endN p)) c1, .slice A2 (wN (endD p)) c2] 110)).alloc (.cells #[.int .i64 (endI q), .bool (endS q), .slice A3 (wN (endN q)) c3, .slice A4 (wN (endD q)) c4] 110)) (.cells #[.int .i64 0, .bool false, .slice none 0 0, .slice none 0 0] 110)
      simpa using this)
    have hz0 : w.heap.size < w1.heap.size := by omega
    have hz1 : w.heap.size + 1 < w1.heap.size := by omega
    have hz2 : w.heap.size + 2 < w1.heap.size := by omega
    have HX : Hid (∀ (i : Nat) (z : Int), (#[.int .i64 0, .bool false, .slice none 0 0, .slice none 0 0] : Array Value)[i]? ≠ some (Value.int IntKind.u32 z)) := Lib.hid (by
      intro i z hi
      match i, hi with
      | 0, hi => simp at hi
      | 1, hi => simp at hi
      | 2, hi => simp at hi
      | 3, hi => simp at hi
      | q + 4, hi => simp at hi)
    generalize hEe : ecmp q p = E at *
    have HEe := Lib.hid hEe; clear hEe
    go_wp2
    refine bodyPost_ret (v := .agg #[.int .i64 (endI q), .bool (endS q), .slice A3 (wN (endN q)) c3, .slice A4 (wN (endD q)) c4]) (by simp [results, Try.results102, go_sem, *]) rfl ?_
    rw [show maxE p q = q from by unfold maxE; rw [HEe.out]; exact if_pos (of_decide_eq_true HC.out)]
    refine ⟨A3, c3, A4, c4, rfl, ?_, below_set4 (HB0.out.trans (HB1.out.mono (by omega))) (by omega)⟩
    simpa using HE.out.2.set4 (HE.out.2.1.not_in hk.out HX.out) (HE.out.2.2.not_in hk.out HX.out)

end Go.Proofs.Ytamaeggkpdgaiaa
