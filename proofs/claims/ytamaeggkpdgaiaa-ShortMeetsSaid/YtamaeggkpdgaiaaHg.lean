/- The walk of vergeref9.Hull. -/
import Derived.Test.YtamaeggkpdgaiaaHf
namespace Go.Proofs.Ytamaeggkpdgaiaa
open Go.RowKit

theorem cell_set2 {w : World} {g q o : Nat} {a b : Value} (hne : q ≠ g) : ((w.setCell ⟨g, 0, none⟩ a).setCell ⟨g, 1, none⟩ b).cell? ⟨q, o, none⟩ = w.cell? ⟨q, o, none⟩ := by
  have H : ∀ (W : World) (k : Nat) (v : Value), (W.setCell ⟨g, k, none⟩ v).cell? ⟨q, o, none⟩ = W.cell? ⟨q, o, none⟩ := fun W k v => World.cell?_setCell_other W _ _ _ (by intro e; injection e with e1; exact hne e1.symm)
  rw [H, H]
/-- The bounds of the hull of two sets. -/
def hullLo (n1 n2 : Bool) (p1 p2 : Nat) : Nat := if n1 then p2 else if n2 then p1 else minE p1 p2
def hullHi (n1 n2 : Bool) (q1 q2 : Nat) : Nat := if n1 then q2 else if n2 then q1 else maxE q1 q2
theorem hullS_any (n1 n2 : Bool) (p1 q1 p2 q2 : Nat) (A1 A2 A3 A4 B1 B2 B3 B4 : Option Addr) (c1 c2 c3 c4 d1 d2 d3 d4 : Nat) (w : World) (lp1 : wN (endN p1) ≤ 1099511627776) (mp1 : wN (endD p1) ≤ 1099511627776) (lq1 : wN (endN q1) ≤ 1099511627776) (mq1 : wN (endD q1) ≤ 1099511627776) (lp2 : wN (endN p2) ≤ 1099511627776) (mp2 : wN (endD p2) ≤ 1099511627776) (lq2 : wN (endN q2) ≤ 1099511627776) (mq2 : wN (endD q2) ≤ 1099511627776) (h1 : EndR w w.heap.size p1 A1 A2) (h2 : EndR w w.heap.size q1 A3 A4) (h3 : EndR w w.heap.size p2 B1 B2) (h4 : EndR w w.heap.size q2 B3 B4) :
    Calls Try.prog 60 #[.agg #[.bool n1, .int .i64 (endI p1), .bool (endS p1), .slice A1 (wN (endN p1)) c1, .slice A2 (wN (endD p1)) c2, .int .i64 (endI q1), .bool (endS q1), .slice A3 (wN (endN q1)) c3, .slice A4 (wN (endD q1)) c4], .agg #[.bool n2, .int .i64 (endI p2), .bool (endS p2), .slice B1 (wN (endN p2)) d1, .slice B2 (wN (endD p2)) d2, .int .i64 (endI q2), .bool (endS q2), .slice B3 (wN (endN q2)) d3, .slice B4 (wN (endD q2)) d4]] w fun e w' => SetP w (n1 && n2) (hullLo n1 n2 p1 p2) (hullHi n1 n2 q1 q2) e w' := by
  cases n1
  · cases n2
    · exact hullS_both p1 q1 p2 q2 A1 A2 A3 A4 B1 B2 B3 B4 c1 c2 c3 c4 d1 d2 d3 d4 w lp1 mp1 lq1 mq1 lp2 mp2 lq2 mq2 h1 h2 h3 h4
    · exact hullS_right p1 q1 p2 q2 A1 A2 A3 A4 B1 B2 B3 B4 c1 c2 c3 c4 d1 d2 d3 d4 w h1 h2 h3 h4
  · exact hullS_left n2 p1 q1 p2 q2 A1 A2 A3 A4 B1 B2 B3 B4 c1 c2 c3 c4 d1 d2 d3 d4 w h1 h2 h3 h4

set_option maxRecDepth 100000 in
set_option maxHeartbeats 2000000 in
theorem hull9_walk (x y u v : Nat) (n1 n2 n3 : Bool) (p1 q1 p2 q2 p3 q3 lo hi : Nat)
    (O1 : Hid (∀ w : World, Calls Try.prog 61 #[.agg #[.int .u64 (x : Int), .int .u64 (y : Int)]] w fun e w' => SetP w n1 p1 q1 e w'))
    (O2 : Hid (∀ w : World, Calls Try.prog 61 #[.agg #[.int .u64 (u : Int), .int .u64 (v : Int)]] w fun e w' => SetP w n2 p2 q2 e w'))
    (HH : Hid (∀ (A1 A2 A3 A4 B1 B2 B3 B4 : Option Addr) (c1 c2 c3 c4 d1 d2 d3 d4 : Nat) (w : World), EndR w w.heap.size p1 A1 A2 → EndR w w.heap.size q1 A3 A4 → EndR w w.heap.size p2 B1 B2 → EndR w w.heap.size q2 B3 B4 →
      Calls Try.prog 60 #[.agg #[.bool n1, .int .i64 (endI p1), .bool (endS p1), .slice A1 (wN (endN p1)) c1, .slice A2 (wN (endD p1)) c2, .int .i64 (endI q1), .bool (endS q1), .slice A3 (wN (endN q1)) c3, .slice A4 (wN (endD q1)) c4], .agg #[.bool n2, .int .i64 (endI p2), .bool (endS p2), .slice B1 (wN (endN p2)) d1, .slice B2 (wN (endD p2)) d2, .int .i64 (endI q2), .bool (endS q2), .slice B3 (wN (endN q2)) d3, .slice B4 (wN (endD q2)) d4]] w fun e w' => SetP w n3 p3 q3 e w'))
    (LL : Hid (∀ (A1 A2 A3 A4 : Option Addr) (c1 c2 c3 c4 : Nat) (w : World), EndR w w.heap.size p3 A1 A2 → EndR w w.heap.size q3 A3 A4 →
      Calls Try.prog 59 #[.agg #[.bool n3, .int .i64 (endI p3), .bool (endS p3), .slice A1 (wN (endN p3)) c1, .slice A2 (wN (endD p3)) c2, .int .i64 (endI q3), .bool (endS q3), .slice A3 (wN (endN q3)) c3, .slice A4 (wN (endD q3)) c4]] w fun e w' => e = .returned (.agg #[.int .u64 (lo : Int), .int .u64 (hi : Int)]) ∧ Below w.heap.size w w')) (w : World) :
    Calls Try.prog 25 #[.agg #[.int .u64 (x : Int), .int .u64 (y : Int)], .agg #[.int .u64 (u : Int), .int .u64 (v : Int)]] w
      fun e w' => e = .returned (.agg #[.int .u64 (lo : Int), .int .u64 (hi : Int)]) ∧ Below w.heap.size w w' := by
  have HB0 : Hid (Below w.heap.size w (((w.alloc (.cells #[.int .u64 (x : Int), .int .u64 (y : Int)] 27)).alloc (.cells #[.int .u64 (u : Int), .int .u64 (v : Int)] 27)).alloc (.cells #[.int .u64 0, .int .u64 0] 27))) := Lib.hid (below3 _ _ _ _)
  have KB : Hid (∀ w', Below (w.heap.size + 3) (((w.alloc (.cells #[.int .u64 (x : Int), .int .u64 (y : Int)] 27)).alloc (.cells #[.int .u64 (u : Int), .int .u64 (v : Int)] 27)).alloc (.cells #[.int .u64 0, .int .u64 0] 27)) w' → Below w.heap.size w w') := Lib.hid (fun w' h => HB0.out.trans (h.mono (by omega)))
  have KS : Hid (∀ w', Below (w.heap.size + 3) (((w.alloc (.cells #[.int .u64 (x : Int), .int .u64 (y : Int)] 27)).alloc (.cells #[.int .u64 (u : Int), .int .u64 (v : Int)] 27)).alloc (.cells #[.int .u64 0, .int .u64 0] 27)) w' → (Below w.heap.size w w' ∧ w'.cell? ⟨w.heap.size, 0, none⟩ = some (.int .u64 (x : Int)) ∧ w'.cell? ⟨w.heap.size, 1, none⟩ = some (.int .u64 (y : Int)) ∧ w'.cell? ⟨w.heap.size + 1, 0, none⟩ = some (.int .u64 (u : Int)) ∧ w'.cell? ⟨w.heap.size + 1, 1, none⟩ = some (.int .u64 (v : Int)))) := Lib.hid (fun w' h => ⟨KB.out w' h, (h.cell (p := ⟨w.heap.size, 0, none⟩) (by simp; try omega)).trans (by simp [go_sem]), (h.cell (p := ⟨w.heap.size, 1, none⟩) (by simp; try omega)).trans (by simp [go_sem]), (h.cell (p := ⟨w.heap.size + 1, 0, none⟩) (by simp; try omega)).trans (by simp [go_sem]), (h.cell (p := ⟨w.heap.size + 1, 1, none⟩) (by simp; try omega)).trans (by simp [go_sem])⟩)
  have KR : Hid (∀ w', Below (w.heap.size + 3) (((w.alloc (.cells #[.int .u64 (x : Int), .int .u64 (y : Int)] 27)).alloc (.cells #[.int .u64 (u : Int), .int .u64 (v : Int)] 27)).alloc (.cells #[.int .u64 0, .int .u64 0] 27)) w' → (w'.cell? ⟨w.heap.size + 2, 0, none⟩ = some (.int .u64 0) ∧ w'.cell? ⟨w.heap.size + 2, 1, none⟩ = some (.int .u64 0) ∧ w'.frozen? ⟨w.heap.size + 2, 0, none⟩ = false ∧ w'.frozen? ⟨w.heap.size + 2, 1, none⟩ = false)) := Lib.hid (fun w' h => ⟨(h.cell (p := ⟨w.heap.size + 2, 0, none⟩) (by simp; try omega)).trans (by simp [go_sem]), (h.cell (p := ⟨w.heap.size + 2, 1, none⟩) (by simp; try omega)).trans (by simp [go_sem]), (h.frozen (p := ⟨w.heap.size + 2, 0, none⟩) (by simp; try omega)).trans (by simp [go_sem]), (h.frozen (p := ⟨w.heap.size + 2, 1, none⟩) (by simp; try omega)).trans (by simp [go_sem])⟩)
  have Z0 : Hid (Below (w.heap.size + 3) (((w.alloc (.cells #[.int .u64 (x : Int), .int .u64 (y : Int)] 27)).alloc (.cells #[.int .u64 (u : Int), .int .u64 (v : Int)] 27)).alloc (.cells #[.int .u64 0, .int .u64 0] 27)) (((w.alloc (.cells #[.int .u64 (x : Int), .int .u64 (y : Int)] 27)).alloc (.cells #[.int .u64 (u : Int), .int .u64 (v : Int)] 27)).alloc (.cells #[.int .u64 0, .int .u64 0] 27)).drew) := Lib.hid (Below.refl _ _).drew
  go_enter Try.func25, Try.ntmps25
  go_wp2_with fail
  obtain ⟨W0, hW0⟩ : ∃ W0 : World, W0 = (((w.alloc (.cells #[.int .u64 (x : Int), .int .u64 (y : Int)] 27)).alloc (.cells #[.int .u64 (u : Int), .int .u64 (v : Int)] 27)).alloc (.cells #[.int .u64 0, .int .u64 0] 27)) := ⟨_, rfl⟩
  rw [← hW0] at KB KS KR Z0 HB0 ⊢
  have hsz : W0.heap.size = w.heap.size + 3 := by rw [hW0]; simp
  have HSz := Lib.hid hsz
  clear hW0 hsz
  have KK0 := KS.out W0.drew Z0.out
  have hs0 : w.heap.size + 3 ≤ W0.drew.heap.size := by simp; rw [HSz.out]; exact Nat.le_refl _
  have hgg : w.heap.size ≤ w.heap.size + 2 := by omega
  have hgn0 : w.heap.size ≠ w.heap.size + 2 := by omega
  have hgn1 : w.heap.size + 1 ≠ w.heap.size + 2 := by omega
  go_region_held3 (fun w' => (Below w.heap.size w w' ∧ w'.cell? ⟨w.heap.size, 0, none⟩ = some (.int .u64 (x : Int)) ∧ w'.cell? ⟨w.heap.size, 1, none⟩ = some (.int .u64 (y : Int)) ∧ w'.cell? ⟨w.heap.size + 1, 0, none⟩ = some (.int .u64 (u : Int)) ∧ w'.cell? ⟨w.heap.size + 1, 1, none⟩ = some (.int .u64 (v : Int))))
    (first | with_reducible assumption | exact ⟨((KB.out w6 ZE.out).setCell hgg _).setCell hgg _, (cell_set2 hgn0).trans y0, (cell_set2 hgn0).trans y1, (cell_set2 hgn1).trans y2, (cell_set2 hgn1).trans y3⟩)
    (first
      | (go_at_call 61; (with_reducible refine (O1.out W0.drew).mono ?_); rintro e3 w3 ⟨A1, c1, A2, c2, A3, c3, A4, c4, rfl, g1, g2, hb3⟩; have KK3 := KS.out w3 (Z0.out.trans (hb3.mono hs0)))
      | (go_at_call 61; (with_reducible refine (O2.out w3).mono ?_); rintro e4 w4 ⟨B1, d1, B2, d2, B3, d3, B4, d4, rfl, g3, g4, hb4⟩; have G1 := Lib.hid (g1.next hb4); have G2 := Lib.hid (g2.next hb4); have hb34 := hb3.trans (hb4.mono hb3.size); have KK4 := KS.out w4 (Z0.out.trans (hb34.mono hs0)))
      | (go_at_call 60; (with_reducible refine (HH.out A1 A2 A3 A4 B1 B2 B3 B4 c1 c2 c3 c4 d1 d2 d3 d4 w4 G1.out G2.out g3 g4).mono ?_); rintro e5 w5 ⟨C1, i1, C2, i2, C3, i3, C4, i4, rfl, g5, g6, hb5⟩; have hb35 := hb34.trans (hb5.mono hb34.size); have KK5 := KS.out w5 (Z0.out.trans (hb35.mono hs0)))
      | (go_at_call 59; (with_reducible refine (LL.out C1 C2 C3 C4 i1 i2 i3 i4 w5 g5 g6).mono ?_); rintro e6 w6 ⟨rfl, hb6⟩; have hb36 := hb35.trans (hb6.mono hb35.size); have ZE : Hid (Below (w.heap.size + 3) W0 w6) := Lib.hid (Z0.out.trans (hb36.mono hs0)); have KK6 := KS.out w6 ZE.out; obtain ⟨-, y0, y1, y2, y3⟩ := KS.out w6 ZE.out; obtain ⟨r0, r1, x0, x1⟩ := KR.out w6 ZE.out; have hz := Nat.lt_of_lt_of_le (Nat.lt_succ_self (w.heap.size + 2)) (Nat.le_trans hs0 hb36.size)))
  all_goals
    clear y0 y1 y2 y3
    go_wp2
    refine bodyPost_ret (v := .agg #[.int .u64 (lo : Int), .int .u64 (hi : Int)]) (by simp [results, Try.results25, go_sem, *]) rfl ?_
    exact ⟨rfl, ((KB.out _ ZE.out).setCell hgg _).setCell hgg _⟩

/-- What an interval that isn't empty reads as. -/
theorem sound_facts {x y : Nat} (hx : W64 x) (hy : W64 y) (h : soundD x y = true) :
    nanD (readLo x y) = false ∧ readLo x y ≠ 9218868437227405312 ∧ nanD (readHi x y) = false ∧ readHi x y ≠ 18442240474082181120 ∧ kD (readLo x y) ≤ kD (readHi x y) := by
  have h2 := h
  rw [soundD_eq hx hy, leqF_f64] at h2
  simp only [Bool.and_eq_true, Bool.not_eq_true', decide_eq_true_eq] at h2
  obtain ⟨⟨⟨⟨n1, n2⟩, hle⟩, e1⟩, e2⟩ := h2
  have key : ∀ z, W64 z → nanD z = false → nanD (plainD z) = false ∧ kD (plainD z) = kD z ∧ (plainD z = z ∨ plainD z = 0) := by
    intro z hz hn
    obtain ⟨r, hr, e | e⟩ := w64_cases hz
    · subst e; rw [plainD_pos hr hn]; exact ⟨hn, rfl, Or.inl rfl⟩
    · subst e; rw [plainD_neg hr hn]
      by_cases h0 : r = 0
      · subst h0; decide
      · rw [if_neg h0]; exact ⟨hn, rfl, Or.inl rfl⟩
  obtain ⟨a1, a2, a3⟩ := key x hx n1
  obtain ⟨b1, b2, b3⟩ := key y hy n2
  unfold readLo readHi
  rw [h]
  simp only [if_true]
  refine ⟨a1, ?_, b1, ?_, by rw [a2, b2]; exact hle⟩
  · rcases a3 with e | e <;> rw [e]
    · exact e1
    · decide
  · rcases b3 with e | e <;> rw [e]
    · exact e2
    · decide
theorem unsound_facts {x y : Nat} (h : soundD x y = false) : readLo x y = 9218868437227405312 ∧ readHi x y = 18442240474082181120 := by
  unfold readLo readHi; rw [h]; exact ⟨rfl, rfl⟩
theorem kD_inf : kD 9218868437227405312 = 9218868437227405312 := kD_pos (by decide)
theorem kD_minus : kD 18442240474082181120 = -9218868437227405312 := kD_neg (x := 9218868437227405312) (by decide)

/-- The hull and the meet of two intervals by their ends as they are read. -/
def lesserK (a c : Nat) : Nat := if kD c < kD a then c else a
def greaterK (b d : Nat) : Nat := if kD b < kD d then d else b

theorem of_facts (x y : Nat) (hx : W64 x) (hy : W64 y) : PlainE (ofLo x y) ∧ PlainE (ofHi x y) ∧ nanD (ofLo x y) = false ∧ nanD (ofHi x y) = false := by
  unfold ofLo ofHi
  cases h : soundD x y
  · have : PlainE 0 := ⟨by unfold W64; decide, by decide⟩
    have z : nanD 0 = false := by decide
    exact ⟨this, this, z, z⟩
  · obtain ⟨a1, a2, a3, a4, a5⟩ := sound_facts hx hy h
    exact ⟨plainE_lo hx, plainE_hi hy, a1, a3⟩

theorem hull9_any (x y u v : Nat) (hx : W64 x) (hy : W64 y) (hu : W64 u) (hv : W64 v) (w : World) :
    Calls Try.prog 25 #[.agg #[.int .u64 (x : Int), .int .u64 (y : Int)], .agg #[.int .u64 (u : Int), .int .u64 (v : Int)]] w
      fun e w' => e = .returned (.agg #[.int .u64 (lesserK (readLo x y) (readLo u v) : Int), .int .u64 (greaterK (readHi x y) (readHi u v) : Int)]) ∧ Below w.heap.size w w' := by
  obtain ⟨f1, f2, f3, f4⟩ := of_facts x y hx hy
  obtain ⟨g1, g2, g3, g4⟩ := of_facts u v hu hv
  obtain ⟨l1, m1⟩ := end_words f1 f3
  obtain ⟨l2, m2⟩ := end_words f2 f4
  obtain ⟨l3, m3⟩ := end_words g1 g3
  obtain ⟨l4, m4⟩ := end_words g2 g4
  refine hull9_walk x y u v (!soundD x y) (!soundD u v) ((!soundD x y) && (!soundD u v)) (ofLo x y) (ofHi x y) (ofLo u v) (ofHi u v) (hullLo (!soundD x y) (!soundD u v) (ofLo x y) (ofLo u v)) (hullHi (!soundD x y) (!soundD u v) (ofHi x y) (ofHi u v)) _ _
    (Lib.hid (fun w => of_any x y hx hy w)) (Lib.hid (fun w => of_any u v hu hv w))
    (Lib.hid (fun A1 A2 A3 A4 B1 B2 B3 B4 c1 c2 c3 c4 d1 d2 d3 d4 w h1 h2 h3 h4 => hullS_any _ _ _ _ _ _ A1 A2 A3 A4 B1 B2 B3 B4 c1 c2 c3 c4 d1 d2 d3 d4 w (by omega) (by omega) (by omega) (by omega) (by omega) (by omega) (by omega) (by omega) h1 h2 h3 h4))
    (Lib.hid ?_) w
  clear l1 m1 l2 m2 l3 m3 l4 m4
  intro A1 A2 A3 A4 c1 c2 c3 c4 w h1 h2
  cases hs : soundD x y
  · obtain ⟨e1, e2⟩ := unsound_facts hs
    cases ht : soundD u v
    · obtain ⟨e3, e4⟩ := unsound_facts ht
      rw [e1, e2, e3, e4, show lesserK 9218868437227405312 9218868437227405312 = 9218868437227405312 from by unfold lesserK; simp, show greaterK 18442240474082181120 18442240474082181120 = 18442240474082181120 from by unfold greaterK; simp]
      exact least_none _ _ A1 A2 A3 A4 c1 c2 c3 c4 w
    · obtain ⟨s1, s2, s3, s4, s5⟩ := sound_facts hu hv ht
      have o1 : ofLo u v = readLo u v := by unfold ofLo; rw [ht]; rfl
      have o2 : ofHi u v = readHi u v := by unfold ofHi; rw [ht]; rfl
      have hp := plainE_lo (x := u) (y := v) hu
      have hq := plainE_hi (x := u) (y := v) hv
      rw [hs, ht] at h1 h2
      rw [o1] at h1 g1 g3; rw [o2] at h2 g2 g4
      have k1 : lesserK (readLo x y) (readLo u v) = readLo u v := by
        rw [e1]; unfold lesserK
        have := kD_bounds hp.1 s1
        rw [kD_inf]
        split
        · rfl
        · have : kD (readLo u v) = 9218868437227405312 := by omega
          rcases end_cases hp s1 with e | e | ⟨_, s, r, hr, e, _, hk, _⟩
          · exact absurd e s2
          · rw [e, kD_minus] at this; omega
          · rw [hk] at this; cases s <;> simp at this <;> omega
      have k2 : greaterK (readHi x y) (readHi u v) = readHi u v := by
        rw [e2]; unfold greaterK
        have := kD_bounds hq.1 s3
        rw [kD_minus]
        split
        · rfl
        · have : kD (readHi u v) = -9218868437227405312 := by omega
          rcases end_cases hq s3 with e | e | ⟨_, s, r, hr, e, _, hk, _⟩
          · rw [e, kD_inf] at this; omega
          · exact absurd e s4
          · rw [hk] at this; cases s <;> simp at this <;> omega
      rw [k1, k2]
      show Calls _ _ #[.agg #[.bool false, .int .i64 (endI (ofLo u v)), .bool (endS (ofLo u v)), .slice A1 (wN (endN (ofLo u v))) c1, .slice A2 (wN (endD (ofLo u v))) c2, .int .i64 (endI (ofHi u v)), .bool (endS (ofHi u v)), .slice A3 (wN (endN (ofHi u v))) c3, .slice A4 (wN (endD (ofHi u v))) c4]] w _
      rw [o1, o2]
      exact least_any _ _ hp hq s1 s3 s2 s4 A1 A2 A3 A4 c1 c2 c3 c4 w h1 h2
  · obtain ⟨t1, t2, t3, t4, t5⟩ := sound_facts hx hy hs
    have q1 : ofLo x y = readLo x y := by unfold ofLo; rw [hs]; rfl
    have q2 : ofHi x y = readHi x y := by unfold ofHi; rw [hs]; rfl
    have hp' := plainE_lo (x := x) (y := y) hx
    have hq' := plainE_hi (x := x) (y := y) hy
    rw [q1] at f1 f3 h1; rw [q2] at f2 f4 h2
    rw [hs] at h1 h2
    cases ht : soundD u v
    · obtain ⟨e3, e4⟩ := unsound_facts ht
      rw [ht] at h1 h2
      have k1 : lesserK (readLo x y) (readLo u v) = readLo x y := by
        rw [e3]; unfold lesserK
        have := kD_bounds hp'.1 t1
        rw [kD_inf, if_neg (by omega)]
      have k2 : greaterK (readHi x y) (readHi u v) = readHi x y := by
        rw [e4]; unfold greaterK
        have := kD_bounds hq'.1 t3
        rw [kD_minus, if_neg (by omega)]
      rw [k1, k2]
      show Calls _ _ #[.agg #[.bool false, .int .i64 (endI (ofLo x y)), .bool (endS (ofLo x y)), .slice A1 (wN (endN (ofLo x y))) c1, .slice A2 (wN (endD (ofLo x y))) c2, .int .i64 (endI (ofHi x y)), .bool (endS (ofHi x y)), .slice A3 (wN (endN (ofHi x y))) c3, .slice A4 (wN (endD (ofHi x y))) c4]] w _
      rw [q1, q2]
      exact least_any _ _ hp' hq' t1 t3 t2 t4 A1 A2 A3 A4 c1 c2 c3 c4 w h1 h2
    · obtain ⟨s1, s2, s3, s4, s5⟩ := sound_facts hu hv ht
      have o1 : ofLo u v = readLo u v := by unfold ofLo; rw [ht]; rfl
      have o2 : ofHi u v = readHi u v := by unfold ofHi; rw [ht]; rfl
      have hp := plainE_lo (x := u) (y := v) hu
      have hq := plainE_hi (x := u) (y := v) hv
      rw [ht, o1] at h1; rw [ht, o2] at h2
      have m1 : minE (readLo x y) (readLo u v) = lesserK (readLo x y) (readLo u v) := min_key hp' hp t1 s1
      have m2 : maxE (readHi x y) (readHi u v) = greaterK (readHi x y) (readHi u v) := max_key hq' hq t3 s3
      have r1 : hullLo (!true) (!true) (readLo x y) (readLo u v) = lesserK (readLo x y) (readLo u v) := m1
      have r2 : hullHi (!true) (!true) (readHi x y) (readHi u v) = greaterK (readHi x y) (readHi u v) := m2
      rw [r1] at h1; rw [r2] at h2
      rw [q1, q2, o1, o2, r1, r2]
      have L : PlainE (lesserK (readLo x y) (readLo u v)) ∧ nanD (lesserK (readLo x y) (readLo u v)) = false ∧ lesserK (readLo x y) (readLo u v) ≠ 9218868437227405312 := by
        unfold lesserK; split
        · exact ⟨hp, s1, s2⟩
        · exact ⟨hp', t1, t2⟩
      have G : PlainE (greaterK (readHi x y) (readHi u v)) ∧ nanD (greaterK (readHi x y) (readHi u v)) = false ∧ greaterK (readHi x y) (readHi u v) ≠ 18442240474082181120 := by
        unfold greaterK; split
        · exact ⟨hq, s3, s4⟩
        · exact ⟨hq', t3, t4⟩
      exact least_any _ _ L.1 G.1 L.2.1 G.2.1 L.2.2 G.2.2 A1 A2 A3 A4 c1 c2 c3 c4 w h1 h2

end Go.Proofs.Ytamaeggkpdgaiaa
