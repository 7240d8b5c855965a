/- Meet and Join of the program and of the reference answer alike: plain law, contracts. -/
import Derived.Test.YtamaeggkpdgaiaaHo
import Derived.Test.YtamaeggkpdgaiaaWi
namespace Go.Proofs.Ytamaeggkpdgaiaa
open Go.RowKit

theorem soundT_eq {x y : Nat} (hx : W64 x) (hy : W64 y) : soundT x y = soundD x y := by
  unfold soundT
  rw [soundD_eq hx hy, infPosD_eq hx, infNegD_eq hy]
  simp
theorem plainF_f64 {x : Nat} (hx : W64 x) (hn : nanD x = false) : plainF .f64 x = plainD x := by
  unfold plainF eqZeroF plainD
  rw [hn, order_f64 hn (by decide), ord_eq]
  have k0 : kD 0 = 0 := kD_pos (x := 0) (by decide)
  rw [k0]
  obtain ⟨r, hr, rfl | rfl⟩ := w64_cases hx
  · rw [kD_pos hr]
    have h2 : x ≠ 9223372036854775808 := by omega
    by_cases h : x = 0
    · subst h; simp
    · simp [h, h2]
  · rw [kD_neg hr]
    by_cases h : r = 0
    · subst h; simp
    · have h2 : ¬ (-(r : Int) = 0) := by omega
      have h3 : r + 9223372036854775808 ≠ 9223372036854775808 := by omega
      simp [h]
theorem sound_nan {x y : Nat} (hx : W64 x) (hy : W64 y) (h : soundD x y = true) : nanD x = false ∧ nanD y = false := by
  rw [soundD_eq hx hy, leqF_f64] at h
  revert h
  cases nanD x <;> cases nanD y <;> simp
theorem readLoT_eq {x y : Nat} (hx : W64 x) (hy : W64 y) : readLoT x y = readLo x y := by
  unfold readLoT readLo
  rw [soundT_eq hx hy]
  cases h : soundD x y
  · rfl
  · simp only [if_true]; exact plainF_f64 hx (sound_nan hx hy h).1
theorem readHiT_eq {x y : Nat} (hx : W64 x) (hy : W64 y) : readHiT x y = readHi x y := by
  unfold readHiT readHi
  rw [soundT_eq hx hy]
  cases h : soundD x y
  · rfl
  · simp only [if_true]; exact plainF_f64 hy (sound_nan hx hy h).2

theorem cmp_lt {a b : Int} (h : a < b) : compare a b = .lt := by rw [Int.compare_eq_ite_lt]; simp [h]
theorem cmp_gt {a b : Int} (h : b < a) : compare a b = .gt := by rw [Int.compare_eq_ite_lt]; have : ¬ a < b := by omega
                                                                 simp [h, this]
theorem cmp_eq {a b : Int} (h : a = b) : compare a b = .eq := by subst h; simp

theorem maxF_key {k : FloatKind} {x y : Nat} {a b : Int} (ho : k.format.order x y = some (compare a b)) (inj : a = b → x = y) : maxF k x y = if a < b then y else x := by
  unfold maxF
  rw [ho]
  rcases Int.lt_trichotomy a b with h | h | h
  · rw [cmp_lt h]; show y = _; rw [if_pos h]
  · rw [cmp_eq h]; have := inj h; subst this; simp
  · rw [cmp_gt h]; show x = _; rw [if_neg (by omega)]
theorem minF_key {k : FloatKind} {x y : Nat} {a b : Int} (ho : k.format.order x y = some (compare a b)) (inj : a = b → x = y) : minF k x y = if b < a then y else x := by
  unfold minF
  rw [ho]
  rcases Int.lt_trichotomy a b with h | h | h
  · rw [cmp_lt h]; show x = _; rw [if_neg (by omega)]
  · rw [cmp_eq h]; have := inj h; subst this; simp
  · rw [cmp_gt h]; show y = _; rw [if_pos h]
theorem gt_key {k : FloatKind} {x y : Nat} {a b : Int} (ho : k.format.order x y = some (compare a b)) : (k.format.order x y == some .gt) = decide (b < a) := by
  rw [ho]
  rcases Int.lt_trichotomy a b with h | h | h
  · rw [cmp_lt h, decide_eq_false (by omega)]; rfl
  · rw [cmp_eq h, decide_eq_false (by omega)]; rfl
  · rw [cmp_gt h, decide_eq_true (by omega)]; rfl

theorem maxD {x y : Nat} (hx : EndOk x) (hy : EndOk y) : maxF .f64 x y = greaterK x y := maxF_key (order_f64 hx.nan hy.nan) (kD_inj hx.plain hy.plain)
theorem minD {x y : Nat} (hx : EndOk x) (hy : EndOk y) : minF .f64 x y = lesserK x y := minF_key (order_f64 hx.nan hy.nan) (kD_inj hx.plain hy.plain)
theorem ok_greater {x y : Nat} (hx : EndOk x) (hy : EndOk y) : EndOk (greaterK x y) := by unfold greaterK; split <;> assumption
theorem ok_lesser {x y : Nat} (hx : EndOk x) (hy : EndOk y) : EndOk (lesserK x y) := by unfold lesserK; split <;> assumption

/-- Words of binary32 as a reading leaves them. -/
theorem canon_key {z : Nat} (hz : Canon z) : nanS z = false ∧ ∃ s r, r ≤ 2139095040 ∧ z = thinOf s r ∧ kS z = (if s then -(r : Int) else (r : Int)) ∧ kD (wideF z) = (if s then -(Fl.wideRung r : Int) else (Fl.wideRung r : Int)) := by
  obtain ⟨s, r, h1, h2, h3⟩ := hz
  refine ⟨?_, s, r, h1, h2, ?_, by rw [h3]; exact kD_wideN⟩
  · rw [h2]; unfold thinOf
    split
    · decide
    · cases s
      · rw [if_neg Bool.false_ne_true, (nanS_iff (by omega)).1]; exact decide_eq_false (by omega)
      · rw [if_pos rfl, (nanS_iff (by omega)).2]; exact decide_eq_false (by omega)
  · rw [h2]; unfold thinOf
    split
    · subst_vars; cases s <;> decide
    · cases s
      · rw [if_neg Bool.false_ne_true, kS_pos (by omega)]; rfl
      · rw [if_pos rfl, kS_neg (by omega)]; rfl
theorem canon_lt {y z : Nat} (hy : Canon y) (hz : Canon z) : kD (wideF y) < kD (wideF z) ↔ kS y < kS z := by
  obtain ⟨-, s, r, h1, -, h3, h4⟩ := canon_key hy
  obtain ⟨-, t, q, g1, -, g3, g4⟩ := canon_key hz
  rw [h3, h4, g3, g4]
  have m1 := Fl.wideRung_mono h1 g1
  have m2 := Fl.wideRung_mono g1 h1
  have z1 := wideRung_pos h1
  have z2 := wideRung_pos g1
  have z3 : r = 0 → Fl.wideRung r = 0 := fun h => by rw [h, wideRung_zero]
  have z4 : q = 0 → Fl.wideRung q = 0 := fun h => by rw [h, wideRung_zero]
  generalize Fl.wideRung r = R at *
  generalize Fl.wideRung q = U at *
  by_cases e1 : r = 0
  · have := z3 e1
    by_cases e2 : q = 0
    · have := z4 e2
      cases s <;> cases t <;> simp <;> omega
    · have := z2 e2
      cases s <;> cases t <;> simp <;> omega
  · have := z1 e1
    by_cases e2 : q = 0
    · have := z4 e2
      cases s <;> cases t <;> simp <;> omega
    · have := z2 e2
      cases s <;> cases t <;> simp <;> omega
theorem canon_inj {y z : Nat} (hy : Canon y) (hz : Canon z) (h : kS y = kS z) : y = z := by
  obtain ⟨-, s, r, h1, h2, h3, -⟩ := canon_key hy
  obtain ⟨-, t, q, g1, g2, g3, -⟩ := canon_key hz
  rw [h3, g3] at h
  rw [h2, g2]
  unfold thinOf
  by_cases e1 : r = 0
  · have : q = 0 := by revert h; cases s <;> cases t <;> simp <;> omega
    rw [if_pos e1, if_pos this]
  · have h0 : q ≠ 0 := by rintro rfl; revert h; cases s <;> cases t <;> simp <;> omega
    rw [if_neg e1, if_neg h0]
    revert h; cases s <;> cases t <;> simp <;> omega
theorem canon_order {y z : Nat} (hy : Canon y) (hz : Canon z) : FloatKind.f32.format.order y z = some (compare (kS y) (kS z)) := order_f32 (canon_key hy).1 (canon_key hz).1
theorem maxS {y z : Nat} (hy : Canon y) (hz : Canon z) : maxF .f32 y z = if kS y < kS z then z else y := maxF_key (canon_order hy hz) (canon_inj hy hz)
theorem minS {y z : Nat} (hy : Canon y) (hz : Canon z) : minF .f32 y z = if kS z < kS y then z else y := minF_key (canon_order hy hz) (canon_inj hy hz)
theorem canon_max {y z : Nat} (hy : Canon y) (hz : Canon z) : Canon (maxF .f32 y z) ∧ wideF (maxF .f32 y z) = greaterK (wideF y) (wideF z) := by
  rw [maxS hy hz]
  unfold greaterK
  have := canon_lt hy hz
  by_cases h : kS y < kS z
  · rw [if_pos h, if_pos (this.2 h)]; exact ⟨hz, rfl⟩
  · rw [if_neg h, if_neg (fun h2 => h (this.1 h2))]; exact ⟨hy, rfl⟩
theorem canon_min {y z : Nat} (hy : Canon y) (hz : Canon z) : Canon (minF .f32 y z) ∧ wideF (minF .f32 y z) = lesserK (wideF y) (wideF z) := by
  rw [minS hy hz]
  unfold lesserK
  have := canon_lt hz hy
  by_cases h : kS z < kS y
  · rw [if_pos h, if_pos (this.2 h)]; exact ⟨hz, rfl⟩
  · rw [if_neg h, if_neg (fun h2 => h (this.1 h2))]; exact ⟨hy, rfl⟩

/-- What two intervals of binary32 have in common. -/
def meetLoS (a b c d : Nat) : Nat := if FloatKind.f32.format.order (maxF .f32 a c) (minF .f32 b d) == some .gt then 2139095040 else maxF .f32 a c
def meetHiS (a b c d : Nat) : Nat := if FloatKind.f32.format.order (maxF .f32 a c) (minF .f32 b d) == some .gt then 4286578688 else minF .f32 b d
theorem meetS {a b c d : Nat} (ha : Canon a) (hb : Canon b) (hc : Canon c) (hd : Canon d) :
    (Canon (meetLoS a b c d) ∧ Canon (meetHiS a b c d)) ∧ wideF (meetLoS a b c d) = meetLo (wideF a) (wideF b) (wideF c) (wideF d) ∧ wideF (meetHiS a b c d) = meetHi (wideF a) (wideF b) (wideF c) (wideF d) := by
  obtain ⟨m1, m2⟩ := canon_max ha hc
  obtain ⟨n1, n2⟩ := canon_min hb hd
  have ht : (FloatKind.f32.format.order (maxF .f32 a c) (minF .f32 b d) == some .gt) = apartK (wideF a) (wideF b) (wideF c) (wideF d) := by
    rw [gt_key (canon_order m1 n1)]
    unfold apartK
    rw [← m2, ← n2, Bool.eq_iff_iff, decide_eq_true_eq, decide_eq_true_eq]
    exact (canon_lt n1 m1).symm
  unfold meetLoS meetHiS meetLo meetHi
  rw [ht]
  cases apartK (wideF a) (wideF b) (wideF c) (wideF d)
  · exact ⟨⟨m1, n1⟩, m2, n2⟩
  · exact ⟨⟨canon_inf false, canon_inf true⟩, show wideF 2139095040 = 9218868437227405312 by decide, show wideF 4286578688 = 18442240474082181120 by decide⟩

theorem isSome_canon {y z : Nat} (hy : Canon y) (hz : Canon z) : (FloatKind.f32.format.order y z).isSome = true := by rw [canon_order hy hz]; rfl
theorem isSome_ok {y z : Nat} (hy : EndOk y) (hz : EndOk z) : (FloatKind.f64.format.order y z).isSome = true := by rw [order_f64 hy.nan hz.nan]; rfl

theorem meet32_any (x y u v : Nat) (hx : W32 x) (hy : W32 y) (hu : W32 u) (hv : W32 v) (w : World) :
    Calls Try.prog 14 #[.agg #[.float .f32 x, .float .f32 y], .agg #[.float .f32 u, .float .f32 v]] w
      fun e w' => e = .returned (.agg #[.float .f32 (meetLoS (readLoS x y) (readHiS x y) (readLoS u v) (readHiS u v)), .float .f32 (meetHiS (readLoS x y) (readHiS x y) (readLoS u v) (readHiS u v))]) ∧ Below w.heap.size w w' := by
  have ca := canon_lo (y := y) hx; have cb := canon_hi (x := x) hy; have cc := canon_lo (y := v) hu; have cd := canon_hi (x := u) hv
  exact meet32_walk x y u v _ _ _ _ _ _ (FloatKind.f32.format.order (maxF .f32 (readLoS x y) (readLoS u v)) (minF .f32 (readHiS x y) (readHiS u v)) == some .gt) _ _
    (fun h => by unfold meetLoS meetHiS; rw [h]; exact ⟨rfl, rfl⟩) (fun h => by unfold meetLoS meetHiS; rw [h]; exact ⟨rfl, rfl⟩)
    (Lib.hid (fun w => read32_any x y w)) (Lib.hid (fun w => read32_any u v w)) (fun ts t w => run_max_float2 ts t .f32 _ _ (isSome_canon ca cc)) (fun ts t w => run_min_float2 ts t .f32 _ _ (isSome_canon cb cd)) rfl w
theorem join32_any (x y u v : Nat) (hx : W32 x) (hy : W32 y) (hu : W32 u) (hv : W32 v) (w : World) :
    Calls Try.prog 16 #[.agg #[.float .f32 x, .float .f32 y], .agg #[.float .f32 u, .float .f32 v]] w
      fun e w' => e = .returned (.agg #[.float .f32 (minF .f32 (readLoS x y) (readLoS u v)), .float .f32 (maxF .f32 (readHiS x y) (readHiS u v))]) ∧ Below w.heap.size w w' := by
  have ca := canon_lo (y := y) hx; have cb := canon_hi (x := x) hy; have cc := canon_lo (y := v) hu; have cd := canon_hi (x := u) hv
  exact join32_walk x y u v _ _ _ _ _ _ (Lib.hid (fun w => read32_any x y w)) (Lib.hid (fun w => read32_any u v w)) (fun ts t w => run_min_float2 ts t .f32 _ _ (isSome_canon ca cc)) (fun ts t w => run_max_float2 ts t .f32 _ _ (isSome_canon cb cd)) w
theorem meetNear_any (x y u v : Nat) (hx : W32 x) (hy : W32 y) (hu : W32 u) (hv : W32 v) (w : World) :
    Calls Try.prog 18 #[.agg #[.float .f32 x, .float .f32 y], .agg #[.float .f32 u, .float .f32 v]] w
      fun e w' => e = .returned (.agg #[.float .f32 (meetLoS (readLoS x y) (readHiS x y) (readLoS u v) (readHiS u v)), .float .f32 (meetHiS (readLoS x y) (readHiS x y) (readLoS u v) (readHiS u v))]) ∧ Below w.heap.size w w' := by
  have ca := canon_lo (y := y) hx; have cb := canon_hi (x := x) hy; have cc := canon_lo (y := v) hu; have cd := canon_hi (x := u) hv
  exact meetNear_walk x y u v _ _ _ _ _ _ (FloatKind.f32.format.order (maxF .f32 (readLoS x y) (readLoS u v)) (minF .f32 (readHiS x y) (readHiS u v)) == some .gt) _ _
    (fun h => by unfold meetLoS meetHiS; rw [h]; exact ⟨rfl, rfl⟩) (fun h => by unfold meetLoS meetHiS; rw [h]; exact ⟨rfl, rfl⟩)
    (Lib.hid (fun w => readNear_any x y w)) (Lib.hid (fun w => readNear_any u v w)) (fun ts t w => run_max_float2 ts t .f32 _ _ (isSome_canon ca cc)) (fun ts t w => run_min_float2 ts t .f32 _ _ (isSome_canon cb cd)) rfl w
theorem joinNear_any (x y u v : Nat) (hx : W32 x) (hy : W32 y) (hu : W32 u) (hv : W32 v) (w : World) :
    Calls Try.prog 19 #[.agg #[.float .f32 x, .float .f32 y], .agg #[.float .f32 u, .float .f32 v]] w
      fun e w' => e = .returned (.agg #[.float .f32 (minF .f32 (readLoS x y) (readLoS u v)), .float .f32 (maxF .f32 (readHiS x y) (readHiS u v))]) ∧ Below w.heap.size w w' := by
  have ca := canon_lo (y := y) hx; have cb := canon_hi (x := x) hy; have cc := canon_lo (y := v) hu; have cd := canon_hi (x := u) hv
  exact joinNear_walk x y u v _ _ _ _ _ _ (Lib.hid (fun w => readNear_any x y w)) (Lib.hid (fun w => readNear_any u v w)) (fun ts t w => run_min_float2 ts t .f32 _ _ (isSome_canon ca cc)) (fun ts t w => run_max_float2 ts t .f32 _ _ (isSome_canon cb cd)) w
theorem meet64_any (x y u v : Nat) (hx : W64 x) (hy : W64 y) (hu : W64 u) (hv : W64 v) (w : World) :
    Calls Try.prog 22 #[.agg #[.float .f64 x, .float .f64 y], .agg #[.float .f64 u, .float .f64 v]] w
      fun e w' => e = .returned (.agg #[.float .f64 (meetLo (readLo x y) (readHi x y) (readLo u v) (readHi u v)), .float .f64 (meetHi (readLo x y) (readHi x y) (readLo u v) (readHi u v))]) ∧ Below w.heap.size w w' := by
  have oa := ok_lo hx hy; have ob := ok_hi hx hy; have oc := ok_lo hu hv; have od := ok_hi hu hv
  have og := ok_greater oa oc; have ol := ok_lesser ob od
  have R1 := fun w => read64_any x y w
  have R2 := fun w => read64_any u v w
  rw [readLoT_eq hx hy, readHiT_eq hx hy] at R1
  rw [readLoT_eq hu hv, readHiT_eq hu hv] at R2
  refine meet64_walk x y u v _ _ _ _ (greaterK (readLo x y) (readLo u v)) (lesserK (readHi x y) (readHi u v)) (apartK (readLo x y) (readHi x y) (readLo u v) (readHi u v)) _ _
    (fun h => by unfold meetLo meetHi; rw [h]; exact ⟨rfl, rfl⟩) (fun h => by unfold meetLo meetHi; rw [h]; exact ⟨rfl, rfl⟩)
    (Lib.hid R1) (Lib.hid R2) (fun ts t w => ?_) (fun ts t w => ?_) ?_ w
  · rw [← maxD oa oc]; exact run_max_float2 ts t .f64 _ _ (isSome_ok oa oc)
  · rw [← minD ob od]; exact run_min_float2 ts t .f64 _ _ (isSome_ok ob od)
  · exact gt_key (order_f64 og.nan ol.nan)
theorem joinFar_any (x y u v : Nat) (hx : W64 x) (hy : W64 y) (hu : W64 u) (hv : W64 v) (w : World) :
    Calls Try.prog 23 #[.agg #[.float .f64 x, .float .f64 y], .agg #[.float .f64 u, .float .f64 v]] w
      fun e w' => e = .returned (.agg #[.float .f64 (lesserK (readLo x y) (readLo u v)), .float .f64 (greaterK (readHi x y) (readHi u v))]) ∧ Below w.heap.size w w' := by
  have oa := ok_lo hx hy; have ob := ok_hi hx hy; have oc := ok_lo hu hv; have od := ok_hi hu hv
  have R1 := fun w => readFar_any x y w
  have R2 := fun w => readFar_any u v w
  rw [readLoT_eq hx hy, readHiT_eq hx hy] at R1
  rw [readLoT_eq hu hv, readHiT_eq hu hv] at R2
  refine joinFar_walk x y u v _ _ _ _ (lesserK (readLo x y) (readLo u v)) (greaterK (readHi x y) (readHi u v)) (Lib.hid R1) (Lib.hid R2) (fun ts t w => ?_) (fun ts t w => ?_) w
  · rw [← minD oa oc]; exact run_min_float2 ts t .f64 _ _ (isSome_ok oa oc)
  · rw [← maxD ob od]; exact run_max_float2 ts t .f64 _ _ (isSome_ok ob od)

end Go.Proofs.Ytamaeggkpdgaiaa
