/- The places of two intervals' ends: plain law; the walk of vergeref9.Disjoint. -/
import Derived.Test.YtamaeggkpdgaiaaHl
namespace Go.Proofs.Ytamaeggkpdgaiaa
open Go.RowKit

theorem kD_inj {p q : Nat} (hp : PlainE p) (hq : PlainE q) (h : kD p = kD q) : p = q := by
  obtain ⟨wp, pp⟩ := hp
  obtain ⟨wq, pq⟩ := hq
  obtain ⟨r, hr, rfl | rfl⟩ := w64_cases wp <;> obtain ⟨s, hs, rfl | rfl⟩ := w64_cases wq
  · rw [kD_pos hr, kD_pos hs] at h; omega
  · rw [kD_pos hr, kD_neg hs] at h
    have : s = 0 := by omega
    subst this; exact absurd pq (by decide)
  · rw [kD_neg hr, kD_pos hs] at h
    have : r = 0 := by omega
    subst this; exact absurd pp (by decide)
  · rw [kD_neg hr, kD_neg hs] at h; omega

theorem plain_inf : PlainE 9218868437227405312 := ⟨by unfold W64; decide, by decide⟩
theorem plain_minus : PlainE 18442240474082181120 := ⟨by unfold W64; decide, by decide⟩

/-- An end as it is read: it is plain and no NaN. -/
structure EndOk (e : Nat) : Prop where
  plain : PlainE e
  nan : nanD e = false
theorem EndOk.bounds {e : Nat} (h : EndOk e) : -9218868437227405312 ≤ kD e ∧ kD e ≤ 9218868437227405312 := kD_bounds h.plain.1 h.nan
theorem EndOk.inf {e : Nat} (h : EndOk e) : kD e = 9218868437227405312 ↔ e = 9218868437227405312 := ⟨fun hk => kD_inj h.plain plain_inf (by rw [hk, kD_inf]), fun he => by rw [he, kD_inf]⟩
theorem EndOk.minus {e : Nat} (h : EndOk e) : kD e = -9218868437227405312 ↔ e = 18442240474082181120 := ⟨fun hk => kD_inj h.plain plain_minus (by rw [hk, kD_minus]), fun he => by rw [he, kD_minus]⟩
theorem infP_cases {e : Nat} (h : EndOk e) (hi : InfP e) : e = 9218868437227405312 ∨ e = 18442240474082181120 := by
  unfold InfP at hi
  obtain ⟨r, hr, rfl | rfl⟩ := w64_cases h.plain.1 <;> omega

theorem ok_lo {x y : Nat} (hx : W64 x) (hy : W64 y) : EndOk (readLo x y) := ⟨plainE_lo hx, by
  cases hs : soundD x y
  · rw [(unsound_facts hs).1]; decide
  · exact (sound_facts hx hy hs).1⟩
theorem ok_hi {x y : Nat} (hx : W64 x) (hy : W64 y) : EndOk (readHi x y) := ⟨plainE_hi hy, by
  cases hs : soundD x y
  · rw [(unsound_facts hs).2]; decide
  · exact (sound_facts hx hy hs).2.2.1⟩
theorem read_idem {x y : Nat} (hx : W64 x) (hy : W64 y) : readLo (readLo x y) (readHi x y) = readLo x y ∧ readHi (readLo x y) (readHi x y) = readHi x y := by
  cases hs : soundD x y
  · obtain ⟨e1, e2⟩ := unsound_facts hs
    rw [e1, e2]; decide
  · obtain ⟨t1, t2, t3, t4, t5⟩ := sound_facts hx hy hs
    have o1 := ok_lo hx hy; have o2 := ok_hi hx hy
    have : soundD (readLo x y) (readHi x y) = true := by
      unfold soundD
      rw [t1, t3, aboveD_eq o1.plain.1 o2.plain.1, t1, t3]
      have h1 : ((readLo x y : Int) != 9218868437227405312) = true := by simp; omega
      have h2 : ((readHi x y : Int) != 18442240474082181120) = true := by simp; omega
      rw [h1, h2]
      simp; omega
    unfold readLo readHi at *
    rw [hs] at *
    simp only [if_true] at *
    rw [this]
    simp only [if_true]
    exact ⟨o1.plain.2, o2.plain.2⟩

/-- What a place says. -/
def RankP (n : Nat) (f : Nat → Nat) (e p : Nat) : Prop :=
  (e = 18442240474082181120 ∧ p = 0) ∨ (e = 9218868437227405312 ∧ p = 4 * (n + 1)) ∨ ((e ≠ 18442240474082181120 ∧ e ≠ 9218868437227405312) ∧ ∃ s, s < n ∧ f s = e ∧ p = 4 * (s + 1))
theorem rank_of {E : Nat → Nat} {n : Nat} {f : Nat → Nat} (h : CutsD E n f) {j p : Nat} (hj : j < 4) (ho : EndOk (E j)) (hp : PlaceP n f (E j) p) : RankP n f (E j) p := by
  rcases hp with ⟨h1, h2⟩ | ⟨hne, s, hs, hno, hyes, rfl⟩
  · exact Or.inl ⟨h1, h2⟩
  · by_cases hi : InfP (E j)
    · rcases infP_cases ho hi with h1 | h1
      · refine Or.inr (Or.inl ⟨h1, ?_⟩)
        have : ¬ s < n := fun hl => by
          obtain ⟨k, hk, e1, e2⟩ := h.of s hl
          rw [← e1, hyes hl, h1] at e2
          exact e2 (by unfold InfP; decide)
        have : s = n := by omega
        rw [this]
      · exact absurd h1 hne
    · obtain ⟨i, hi1, hi2⟩ := h.all j hj hi
      have hsl : s < n := by
        rcases Nat.lt_or_ge s n with h | h
        · exact h
        · exact absurd hi2 (hno i (by omega))
      refine Or.inr (Or.inr ⟨⟨hne, fun h1 => hi ?_⟩, s, hsl, hyes hsl, rfl⟩)
      rw [h1]; unfold InfP; decide
theorem up_iff {E : Nat → Nat} {n : Nat} {f : Nat → Nat} (h : CutsD E n f) {s t : Nat} (hs : s < n) (ht : t < n) : kD (f s) < kD (f t) ↔ s < t := by
  rcases Nat.lt_trichotomy s t with q | q | q
  · exact ⟨fun _ => q, fun _ => h.up s t q ht⟩
  · subst q; omega
  · have := h.up t s q hs; omega
theorem rank_lt {E : Nat → Nat} {n : Nat} {f : Nat → Nat} (h : CutsD E n f) {e e' p p' : Nat} (ho : EndOk e) (ho' : EndOk e') (hp : RankP n f e p) (hp' : RankP n f e' p') : p < p' ↔ kD e < kD e' := by
  have b1 := ho.bounds; have b2 := ho'.bounds
  have i1 := ho.inf; have i2 := ho'.inf
  have m1 := ho.minus; have m2 := ho'.minus
  rcases hp with ⟨rfl, rfl⟩ | ⟨rfl, rfl⟩ | ⟨⟨n1, n2⟩, s, hs, es, rfl⟩ <;> rcases hp' with ⟨rfl, rfl⟩ | ⟨rfl, rfl⟩ | ⟨⟨n3, n4⟩, t, ht, et, rfl⟩
  all_goals (try rw [kD_inf] at *); (try rw [kD_minus] at *)
  · omega
  · omega
  · have : ¬ kD e' = -9218868437227405312 := fun hk => n3 (m2.1 hk)
    omega
  · omega
  · omega
  · omega
  · omega
  · have : ¬ kD e = 9218868437227405312 := fun hk => n2 (i1.1 hk)
    omega
  · have := up_iff h hs ht
    rw [es, et] at this
    omega
theorem rank_facts {n : Nat} {f : Nat → Nat} {e p : Nat} (hp : RankP n f e p) : p % 4 = 0 ∧ p ≤ 4 * (n + 1) ∧ (e ≠ 18442240474082181120 → 0 < p) ∧ (e ≠ 9218868437227405312 → p < 4 * (n + 1)) := by
  rcases hp with ⟨h1, rfl⟩ | ⟨h1, rfl⟩ | ⟨⟨n1, n2⟩, s, hs, es, rfl⟩
  · exact ⟨by omega, by omega, fun h => absurd h1 h, fun _ => by omega⟩
  · exact ⟨by omega, by omega, fun _ => by omega, fun h => absurd h1 h⟩
  · exact ⟨by omega, by omega, fun _ => by omega, fun _ => by omega⟩

theorem apart_num {pa pb pc pd N : Nat} (a4 : pa % 4 = 0) (b4 : pb % 4 = 0) (c4 : pc % 4 = 0) (d4 : pd % 4 = 0) (hab : pa ≤ pb) (hcd : pc ≤ pd) (ha : pa < N) (hc : pc < N) (hb : 0 < pb) (hd : 0 < pd) (hbN : pb ≤ N) (hdN : pd ≤ N) :
    Apart false pa pb false pc pd N ↔ (pb < pc ∨ pd < pa) := by
  unfold Apart hasB
  simp only [Bool.not_false, Bool.true_and, Bool.and_eq_true, decide_eq_true_eq]
  constructor
  · intro h
    by_cases h1 : pb < pc ∨ pd < pa
    · exact h1
    · exfalso
      have H : ∀ p, 1 ≤ p → p < N → p % 2 = 0 → ¬ ((pa ≤ p ∧ p ≤ pb) ∧ (pc ≤ p ∧ p ≤ pd)) := h
      rcases Nat.le_total pa pc with q | q <;> rcases Nat.le_total pb pd with r | r
      · rcases Nat.lt_or_ge pc pb with t | t
        · exact H (pc + 2) (by omega) (by omega) (by omega) (by omega)
        · exact H pc (by omega) (by omega) (by omega) (by omega)
      · rcases Nat.lt_or_ge pc pd with t | t
        · exact H (pc + 2) (by omega) (by omega) (by omega) (by omega)
        · exact H pc (by omega) (by omega) (by omega) (by omega)
      · rcases Nat.lt_or_ge pa pb with t | t
        · exact H (pa + 2) (by omega) (by omega) (by omega) (by omega)
        · exact H pa (by omega) (by omega) (by omega) (by omega)
      · rcases Nat.lt_or_ge pa pd with t | t
        · exact H (pa + 2) (by omega) (by omega) (by omega) (by omega)
        · exact H pa (by omega) (by omega) (by omega) (by omega)
  · intro h p h1 h2 h3 h4
    omega

/-- Have two intervals, by their ends as read, nothing in common? -/
def apartK (a b c d : Nat) : Bool := decide (kD (lesserK b d) < kD (greaterK a c))

theorem apart_iff {x y u v : Nat} (hx : W64 x) (hy : W64 y) (hu : W64 u) (hv : W64 v) {n : Nat} {f : Nat → Nat} {pa pb pc pd : Nat} (h : CutsD (four (readLo x y) (readHi x y) (readLo u v) (readHi u v)) n f)
    (ha : PlaceP n f (readLo x y) pa) (hb : PlaceP n f (readHi x y) pb) (hc : PlaceP n f (readLo u v) pc) (hd : PlaceP n f (readHi u v) pd) :
    Apart (!soundD x y) pa pb (!soundD u v) pc pd (4 * (n + 1)) ↔ apartK (readLo x y) (readHi x y) (readLo u v) (readHi u v) = true := by
  have oa := ok_lo hx hy; have ob := ok_hi hx hy; have oc := ok_lo hu hv; have od := ok_hi hu hv
  have ra := rank_of h (j := 0) (by omega) oa ha
  have rb := rank_of h (j := 1) (by omega) ob hb
  have rc := rank_of h (j := 2) (by omega) oc hc
  have rd := rank_of h (j := 3) (by omega) od hd
  unfold apartK
  rw [decide_eq_true_eq]
  cases hs : soundD x y
  · obtain ⟨e1, e2⟩ := unsound_facts hs
    refine ⟨fun _ => ?_, fun _ p _ _ _ hh => ?_⟩
    · rw [e1, e2]
      have b1 := oc.bounds; have b2 := od.bounds
      have g : kD (greaterK 9218868437227405312 (readLo u v)) = 9218868437227405312 := by
        unfold greaterK; rw [kD_inf, if_neg (by omega), kD_inf]
      have l : kD (lesserK 18442240474082181120 (readHi u v)) = -9218868437227405312 := by
        unfold lesserK; rw [kD_minus, if_neg (by omega), kD_minus]
      rw [g, l]; omega
    · have := hh.1; unfold hasB at this; simp at this
  · cases ht : soundD u v
    · obtain ⟨e1, e2⟩ := unsound_facts ht
      refine ⟨fun _ => ?_, fun _ p _ _ _ hh => ?_⟩
      · rw [e1, e2]
        have b1 := oa.bounds; have b2 := ob.bounds
        have g : kD (greaterK (readLo x y) 9218868437227405312) = 9218868437227405312 := by
          unfold greaterK; rw [kD_inf]; split
          · exact kD_inf
          · omega
        have l : kD (lesserK (readHi x y) 18442240474082181120) = -9218868437227405312 := by
          unfold lesserK; rw [kD_minus]; split
          · exact kD_minus
          · omega
        rw [g, l]; omega
      · have := hh.2; unfold hasB at this; simp at this
    · obtain ⟨s1, s2, s3, s4, s5⟩ := sound_facts hx hy hs
      obtain ⟨t1, t2, t3, t4, t5⟩ := sound_facts hu hv ht
      obtain ⟨fa1, fa2, -, fa4⟩ := rank_facts ra
      obtain ⟨fb1, fb2, fb3, -⟩ := rank_facts rb
      obtain ⟨fc1, fc2, -, fc4⟩ := rank_facts rc
      obtain ⟨fd1, fd2, fd3, -⟩ := rank_facts rd
      have l1 := rank_lt h ob oa rb ra
      have l2 := rank_lt h od oc rd rc
      have l3 := rank_lt h ob oc rb rc
      have l4 := rank_lt h od oa rd ra
      rw [show (!true) = false from rfl, apart_num fa1 fb1 fc1 fd1 (by omega) (by omega) (fa4 s2) (fc4 t2) (fb3 s4) (fd3 t4) fb2 fd2, l3, l4]
      unfold lesserK greaterK
      split <;> split <;> omega

end Go.Proofs.Ytamaeggkpdgaiaa
