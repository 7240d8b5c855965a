/- The walk of the reference's division of numbers: By. -/
import Derived.Test.YtamaeggkpdgaiaaNk
namespace Go.Proofs.Ytamaeggkpdgaiaa
open Go.RowKit

/-- Two numbers, as a pair of slices. -/
def NumQP (w : World) (Q R : Nat) (e : Ending) (w' : World) : Prop :=
  ∃ A1 c1 A2 c2, e = .returned (.tuple #[.slice A1 (wN Q) c1, .slice A2 (wN R) c2]) ∧ NumR w' w'.heap.size A1 (wN Q) Q ∧ NumR w' w'.heap.size A2 (wN R) R ∧ Shape A1 (wN Q) c1 ∧ Shape A2 (wN R) c2 ∧ Below w.heap.size w w'

theorem shift_word {R n u : Nat} {L : Nat} (hR : R < 4294967296 ^ n) (hu : u < 4294967296) (hL : L < 4294967296 ^ (n + 1)) (h : ∀ t < n + 1, dig L t = if t ≤ 0 then dig R t else dig R (t - 1)) : setD L 0 u = R * 4294967296 + u := by
  have hb : R * 4294967296 + u < 4294967296 ^ (n + 1) := by
    rw [Nat.pow_succ]
    have : (R + 1) * 4294967296 ≤ 4294967296 ^ n * 4294967296 := Nat.mul_le_mul_right _ hR
    omega
  refine eq_of_dig (setD_lt hL (by omega) hu) hb fun t ht => ?_
  rw [dig_setD hu]
  rcases Nat.eq_zero_or_pos t with rfl | hp
  · rw [if_pos rfl]; unfold dig; rw [Nat.pow_zero, Nat.div_one]; omega
  · rw [if_neg (by omega), h t ht, if_neg (by omega)]
    obtain ⟨k, rfl⟩ : ∃ k, t = k + 1 := ⟨t - 1, by omega⟩
    unfold dig
    rw [Nat.add_sub_cancel, Nat.pow_succ', ← Nat.div_div_eq_div_mul, show (R * 4294967296 + u) / 4294967296 = R from by omega]
theorem shift_step {L R n j : Nat} (hj : j + 1 < n + 1) (h : ∀ t < n + 1, dig L t = if t ≤ j + 1 then dig R t else dig R (t - 1)) : ∀ t < n + 1, dig (setD L (j + 1) (dig L j)) t = if t ≤ j then dig R t else dig R (t - 1) := by
  intro t ht
  rw [dig_setD (dig_lt _ _)]
  by_cases e : t = j + 1
  · subst e; rw [if_pos rfl, if_neg (by omega), Nat.add_sub_cancel, h j (by omega), if_pos (by omega)]
  · rw [if_neg e, h t ht]
    by_cases e2 : t ≤ j
    · rw [if_pos (by omega), if_pos e2]
    · rw [if_neg (by omega), if_neg e2]
theorem by_word (U i : Nat) : U / 4294967296 ^ i = U / 4294967296 ^ (i + 1) * 4294967296 + dig U i := by
  unfold dig; rw [Nat.pow_succ, ← Nat.div_div_eq_div_mul]; exact (Nat.div_add_mod' _ _).symm
theorem by_mod {X V u : Nat} : (X * 4294967296 + u) % V = (X % V * 4294967296 + u) % V := by
  conv => lhs; rw [← Nat.div_add_mod X V]
  rw [Nat.add_mul, Nat.mul_assoc, Nat.add_assoc, Nat.mul_add_mod]
theorem by_div {X V u : Nat} (hV : 0 < V) : (X * 4294967296 + u) / V = X / V * 4294967296 + (X % V * 4294967296 + u) / V := by
  conv => lhs; rw [← Nat.div_add_mod X V]
  rw [Nat.add_mul, Nat.mul_assoc, Nat.add_assoc, Nat.mul_add_div hV]
theorem by_put {X i d : Nat} : setD (X * 4294967296 ^ (i + 1)) i d = (X * 4294967296 + d) * 4294967296 ^ i := by
  have h1 := setD_add (X * 4294967296 ^ (i + 1)) i d
  rw [dig_mul_low X (Nat.lt_succ_self i), Nat.zero_mul, Nat.add_zero] at h1
  rw [h1, Nat.add_mul, Nat.pow_succ, Nat.mul_assoc, Nat.mul_comm 4294967296 (4294967296 ^ i)]

set_option maxRecDepth 100000 in
set_option maxHeartbeats 1000000 in
theorem by_small (A1 A2 : Option Addr) (n cp1 m cp2 N M : Nat) (w : World) (hn : n ≤ 17592186044416) (hm : m ≤ 17592186044416) (hlt : N < M) (h : NumR w w.heap.size A1 n N) (h2 : NumR w w.heap.size A2 m M) :
    Calls Try.prog 142 #[.slice A1 n cp1, .slice A2 m cp2] w fun e w' => NumQP w 0 N e w' := by
  have HN := Lib.hid h; have HM := Lib.hid h2; clear h h2
  have HC := Lib.hid (cmpN_lt hlt); clear hlt
  go_enter Try.func142, Try.ntmps142
  go_wp2_with fail
  refine (cmp_any A1 A2 n cp1 m cp2 N M _ (by omega) (by omega) HN.out HM.out).mono ?_
  rintro e w1 ⟨rfl, hb⟩
  rw [HC.out]
  have HB := Lib.hid hb; clear hb
  go_wp2_with fail
  refine (norm_any A1 n cp1 N _ (by omega) (HN.out.next HB.out)).mono ?_
  rintro e w2 ⟨A, cap, rfl, p1, p2, p3⟩
  have P1 := Lib.hid p1; have P2 := Lib.hid p2; have P3 := Lib.hid p3; clear p1 p2 p3
  go_wp2
  go_ret2
  exact ⟨none, 0, A, cap, rfl, NumR.zero, P1.out, .inl ⟨rfl, rfl, rfl⟩, P2.out, below_then HB.out P3.out⟩

set_option maxRecDepth 100000 in
set_option maxHeartbeats 4000000 in
theorem by_great (A1 A2 : Option Addr) (n cp1 m cp2 N M : Nat) (w : World) (hn : n ≤ 17592186044416) (hm : m ≤ 17592186044416) (hle : M ≤ N) (h0 : M ≠ 0) (h : NumR w w.heap.size A1 n N) (h2 : NumR w w.heap.size A2 m M) :
    Calls Try.prog 142 #[.slice A1 n cp1, .slice A2 m cp2] w fun e w' => NumQP w (N / M) (N % M) e w' := by
  obtain ⟨i0, hi, hz0, hz1, hz2⟩ := info_parts infoW
  have HN := Lib.hid h; have HM := Lib.hid h2; clear h h2
  have hcm : 0 ≤ cmpN N M := by unfold cmpN; rw [if_neg (by omega)]; split <;> omega
  generalize hcc : cmpN N M = cc at *
  have hcb : decide (cc < 0) = false := by simp; omega
  have HC := Lib.hid hcc; clear hcc
  have hlenM := lenN_pos h0
  have hlb : lenN M ≤ 32 * m := by have h1 := HM.out.words; rw [wN_len] at h1; omega
  obtain ⟨s, hs⟩ : ∃ s : Nat, s = 31 - (lenN M - 1) % 32 := ⟨_, rfl⟩
  have hs1 : 31 - ((lenN M : Int) - 1) % 32 = (s : Int) := by omega
  have hs32 : s < 32 := by omega
  have hm0 : (lenN M : Int) - 1 ≤ 562949953421312 := by omega
  have hm00 : 0 ≤ (lenN M : Int) - 1 := by omega
  have HLE := Lib.hid hle; have H0 := Lib.hid h0
  clear hs hle h0
  have wn := HN.out.words; have wm := HM.out.words
  go_enter Try.func142, Try.ntmps142
  go_wp2_with fail
  refine (cmp_any A1 A2 n cp1 m cp2 N M _ (by omega) (by omega) HN.out HM.out).mono ?_
  rintro e w1 ⟨rfl, hb⟩
  rw [HC.out]
  have HB1 := Lib.hid hb; clear hb
  go_wp2_with fail
  refine (len_any A2 m cp2 M _ (by omega) (HM.out.next HB1.out)).mono ?_
  rintro e w' ⟨rfl, rfl⟩
  go_wp2_with fail
  refine (left_any A1 n cp1 N s _ (by omega) (by omega) (HN.out.next HB1.out)).mono ?_
  rintro e w2 ⟨AU, capU, rfl, u1, u2, u3⟩
  have HU := Lib.hid u1; have HB2 := Lib.hid (below_then HB1.out u3); clear u1 u2 u3
  go_wp2_with fail
  refine (left_any A2 m cp2 M s _ (by omega) (by omega) (HM.out.next HB2.out)).mono ?_
  rintro e w3 ⟨AV, capV, rfl, v1, v2, v3⟩
  have HU3 := Lib.hid (HU.out.next v3); have HV := Lib.hid v1; have HB3 := Lib.hid (below_then HB2.out v3); clear v1 v2 v3 HU
  have hwu : wN (N * 2 ^ s) ≤ n + 1 := by
    rw [wN_le, Nat.pow_succ]
    exact Nat.mul_lt_mul'' HN.out.1 (Nat.pow_lt_pow_right (a := 2) (by decide) (show s < 32 from hs32))
  have hwv : wN (M * 2 ^ s) ≤ m + 1 := by
    rw [wN_le, Nat.pow_succ]
    exact Nat.mul_lt_mul'' HM.out.1 (Nat.pow_lt_pow_right (a := 2) (by decide) (show s < 32 from hs32))
  have hV0 : 0 < M * 2 ^ s := Nat.mul_pos (by have := H0.out; omega) (Nat.two_pow_pos s)
  have HQ := Lib.hid (Nat.mul_div_mul_right N M (Nat.two_pow_pos s)); have HR := Lib.hid (Nat.mul_mod_mul_right (2 ^ s) N M)
  generalize hU : N * 2 ^ s = U at *
  generalize hV : M * 2 ^ s = V at *
  clear hU hV
  have hvp := wN_pos (Nat.ne_of_gt hV0)
  have HV0 := Lib.hid hV0; clear hV0
  have hlU := Lib.hid (lt_wN U); have hlV := Lib.hid (lt_wN V)
  generalize hnu : wN U = nu at *
  generalize hnv : wN V = nv at *
  clear hnu hnv
  obtain ⟨v, rfl⟩ : ∃ v, nv = v + 1 := ⟨nv - 1, by omega⟩
  go_wp2_with (at_make; (refine wpList_make_full _ rfl _ _ 106 rfl 0 22 i0 _ 1 Try.underlying106 hi hz0 hz1 .i64 .i64 _ _ nu rfl rfl ?hL ?hC ?b2 ?b3 (Nat.zero_le _) ?_))
  case hL => omega
  case hC => omega
  case b2 => rw [hz2]; omega
  case b3 => unfold maxLen; omega
  intro w4 hown hgrow
  have hma := ArrN.made hown
  have hb4 : Below w3.heap.size w3 w4 := (Below.refl _ _).grown hgrow (Nat.le_refl _) (by intro k hk; cases hk)
  have HA1 := Lib.hid hma; have HB4 := Lib.hid hb4; clear hma hb4 hown hgrow
  go_wp2_with (at_make; (refine wpList_make_full _ rfl _ _ 106 rfl 0 22 i0 _ 1 Try.underlying106 hi hz0 hz1 .i64 .i64 _ _ (v + 2) rfl rfl ?hL ?hC ?b2 ?b3 (Nat.zero_le _) ?_))
  case hL => omega
  case hC => omega
  case b2 => rw [hz2]; omega
  case b3 => unfold maxLen; omega
  intro w5 hown hgrow
  have hma := ArrN.made hown
  have hb5 : Below w4.heap.size w4 w5 := (Below.refl _ _).grown hgrow (Nat.le_refl _) (by intro k hk; cases hk)
  have hg1 := HA1.out.lt
  have hs4 := HB4.out.size
  have HA2 := Lib.hid (HA1.out.below hb5 hg1); have HR2 := Lib.hid hma; have HB5 := Lib.hid (HB4.out.trans (hb5.mono hs4)); clear hma hb5 hown hgrow HA1
  have hg2 := HR2.out.lt
  have hgg : w3.heap.size ≠ w4.heap.size := by omega
  have hB3 := HB3.out.size
  generalize hG1 : w3.heap.size = g1 at *
  generalize w4.heap.size = g2 at *
  go_wp2
  go_loopw [11] (fun iv wr => ∃ k : Nat, k ≤ nu ∧ iv = .int .i64 ((k : Int) - 1) ∧ ArrN wr 22 g1 nu (U / 4294967296 ^ k / V * 4294967296 ^ k) ∧ ArrN wr 22 g2 (v + 2) (U / 4294967296 ^ k % V) ∧ Below g1 w3 wr) (fun iv _ => (intOf iv + 1).toNat)
  case atStart =>
    refine ⟨nu, Nat.le_refl _, rfl, ?_, ?_, HB5.out⟩
    · rw [Nat.div_eq_of_lt hlU.out, Nat.zero_div, Nat.zero_mul]; exact HA2.out
    · rw [Nat.div_eq_of_lt hlU.out, Nat.zero_mod]; exact HR2.out
  case round =>
    obtain ⟨k, hk, rfl, harr1, harr2, hbel⟩ := hrel
    have HX1 := Lib.hid harr1; have HX2 := Lib.hid harr2; have HBel := Lib.hid hbel; clear harr1 harr2 hbel
    have hs1 := HX1.out.lt; have hs2 := HX2.out.lt
    rcases Nat.eq_zero_or_pos k with rfl | hp
    · rw [Nat.pow_zero, Nat.div_one] at HX1 HX2
      rw [Nat.mul_one, HQ.out] at HX1
      rw [HR.out] at HX2
      go_wp2_with fail
      refine (right_any _ (v + 2) _ (N % M * 2 ^ s) s _ (by omega) (by omega) HX2.out.num).mono ?_
      rintro e w6 ⟨A5, cap5, lb, rfl, p1, p2, p3⟩
      rw [Nat.mul_div_cancel _ (Nat.two_pow_pos s)] at p1 p2 ⊢
      have P1 := Lib.hid p1; have P2 := Lib.hid p2; have P3 := Lib.hid p3; have HY1 := Lib.hid (HX1.out.below p3 hs1)
      have hs6 := p3.size
      clear p1 p2 p3
      go_wp2_with fail
      refine (norm_any _ nu _ (N / M) _ (by omega) HY1.out.num).mono ?_
      rintro e w7 ⟨A6, cap6, rfl, q1, q2, q3⟩
      have Q1 := Lib.hid q1; have Q2 := Lib.hid q2; have Q3 := Lib.hid q3
      have hP := Lib.hid (P1.out.next q3)
      clear q1 q2 q3
      go_wp2
      go_ret2
      exact ⟨A6, cap6, A5, cap5, rfl, Q1.out, hP.out, Q2.out, P2.out, HB3.out.trans ((HBel.out.trans ((P3.out.trans (Q3.out.mono hs6)).mono (Nat.le_of_lt hs1))).mono (by omega))⟩
    · obtain ⟨i, rfl⟩ : ∃ i, k = i + 1 := ⟨k - 1, by omega⟩
      rw [show (((i + 1 : Nat) : Int) - 1) = (i : Int) from by omega]
      go_wp2
      obtain ⟨wo, rfl⟩ : ∃ wo : World, wo = wr := ⟨_, rfl⟩
      have HWu := Lib.hid (by_word U i)
      generalize hX : U / 4294967296 ^ (i + 1) = X at *
      have hRV : X % V < V := Nat.mod_lt _ HV0.out
      have HRV := Lib.hid hRV; clear hRV hX
      generalize hR0 : X % V = R at *
      have HR0 := Lib.hid hR0; clear hR0
      go_loopw [12] (fun jv wr => ∃ j L : Nat, j ≤ v + 1 ∧ jv = .int .i64 (j : Int) ∧ (∀ t < v + 2, dig L t = if t ≤ j then dig R t else dig R (t - 1)) ∧ ArrN wr 22 g1 nu (X / V * 4294967296 ^ (i + 1)) ∧ ArrN wr 22 g2 (v + 2) L ∧ Below g1 w3 wr) (fun jv _ => (intOf jv).toNat)
      case atStart => exact ⟨v + 1, R, Nat.le_refl _, by go_num, fun t ht => by rw [if_pos (by omega)], HX1.out, HX2.out, HBel.out⟩
      case round =>
        obtain ⟨j, L, hj, rfl, hdg, harr1, harr2, hbel⟩ := hrel
        have HY1 := Lib.hid harr1; have HY2 := Lib.hid harr2; have HBl := Lib.hid hbel; have HDg := Lib.hid hdg; clear harr1 harr2 hbel hdg
        rcases Nat.eq_zero_or_pos j with rfl | hpj
        · rw [show ((0 : Nat) : Int) = 0 from rfl]
          obtain ⟨bu, offu, eA, hbu, hcu⟩ := (HU3.out.below HBl.out).at (by omega)
          subst eA
          have cu := hcu i (by omega)
          have iu : (i : Int) < (nu : Int) := by omega
          have c0 := HY2.out.cell (i := 0) (by omega)
          have f0 := HY2.out.frozen 0
          have du := dig_lt U i
          have hRn : R < 4294967296 ^ (v + 1) := Nat.lt_trans HRV.out hlV.out
          have hsw := shift_word hRn du HY2.out.1 HDg.out
          have hput := HY2.out.set (j := 0) (v := dig U i) (by omega) du
          rw [hsw] at hput
          have hoth := HY1.out.other (g' := g2) (j := 0) (.int .u32 (dig U i : Int)) hgg
          have hbel2 : Hid (Below g1 w3 (wr.setCell ⟨g2, 0, none⟩ (.int .u32 (dig U i : Int)))) := Lib.hid (HBl.out.setCell (by simp; omega) _)
          have P1 := Lib.hid hput; have P2 := Lib.hid hoth; clear hput hoth hsw hcu
          have hR1 : R * 4294967296 + dig U i < V * 4294967296 := by
            have : (R + 1) * 4294967296 ≤ V * 4294967296 := Nat.mul_le_mul_right _ HRV.out
            omega
          generalize hu : dig U i = u at *
          clear hu
          obtain ⟨R1, hR1e⟩ : ∃ R1, R1 = R * 4294967296 + u := ⟨_, rfl⟩
          rw [← hR1e] at P1 hR1
          have HR1e := Lib.hid hR1e.symm; clear hR1e
          generalize dig L 0 = dl at *
          have hdiv : R1 / V < 4294967296 := by rw [Nat.div_lt_iff_lt_mul HV0.out, Nat.mul_comm]; exact hR1
          have HR1 := Lib.hid hR1; have HDv := Lib.hid hdiv; clear hR1 hdiv hRn
          go_wp2
          go_loopw [13] (fun dv wr => ∃ d R2 : Nat, dv = .int .u64 (d : Int) ∧ d * V + R2 = R1 ∧ ArrN wr 22 g1 nu (X / V * 4294967296 ^ (i + 1)) ∧ ArrN wr 22 g2 (v + 2) R2 ∧ Below g1 w3 wr) (fun dv _ => R1 / V - (intOf dv).toNat)
          case atStart => exact ⟨0, R1, rfl, by omega, P2.out, P1.out, hbel2.out⟩
          case round =>
            obtain ⟨d, R2, rfl, hsum, harr1, harr2, hbel⟩ := hrel
            have HZ1 := Lib.hid harr1; have HZ2 := Lib.hid harr2; have HBz := Lib.hid hbel; have HSm := Lib.hid hsum; clear harr1 harr2 hbel hsum
            have hsz1 := HZ1.out.lt; have hsz2 := HZ2.out.lt
            have HVw := Lib.hid ((HV.out.below HBz.out).more (Nat.le_of_lt hsz1))
            have hne : Hid (∀ a, AV = some a → a.block ≠ g2) := Lib.hid (by
              obtain ⟨bv, offv, eV, hbv, _⟩ := (HV.out.below HBz.out).at (by omega)
              intro a ha; rw [eV] at ha; cases ha; simp; omega)
            rcases Nat.lt_or_ge R2 V with hlt | hge
            · have hc := Lib.hid (cmpN_lt hlt)
              have hq : Hid (R1 / V = d ∧ R1 % V = R2) := Lib.hid (by
                rw [← HSm.out, Nat.add_comm, Nat.add_mul_div_right _ _ HV0.out, Nat.add_mul_mod_self_right, Nat.div_eq_of_lt hlt, Nat.mod_eq_of_lt hlt]; exact ⟨by omega, rfl⟩)
              have hd32 : d < 4294967296 := by rw [← hq.out.1]; exact HDv.out
              clear hlt
              go_wp2_with fail
              refine (cmp_any _ _ (v + 2) _ (v + 1) _ R2 V _ (by omega) (by omega) HZ2.out.num HVw.out).mono ?_
              rintro e w6 ⟨rfl, hb6⟩
              rw [hc.out]
              have HT1 := Lib.hid (HZ1.out.below hb6 hsz1); have HT2 := Lib.hid (HZ2.out.below hb6 hsz2); have HBt := Lib.hid (HBz.out.trans (hb6.mono (Nat.le_of_lt hsz1)))
              have hs6 := hb6.size
              clear hb6 HVw HZ1 HZ2
              have c5 := HT1.out.cell (i := i) (by omega)
              have f5 := HT1.out.frozen i
              have hput := HT1.out.set (j := i) (v := d) (by omega) hd32
              rw [by_put] at hput
              have hoth := HT2.out.other (g' := g1) (j := i) (.int .u32 (d : Int)) (Ne.symm hgg)
              have hbel2 : Hid (Below g1 w3 (w6.setCell ⟨g1, i, none⟩ (.int .u32 (d : Int)))) := Lib.hid (HBt.out.setCell (by simp) _)
              have hQn : (X / V * 4294967296 + d) * 4294967296 ^ i = U / 4294967296 ^ i / V * 4294967296 ^ i := by
                rw [HWu.out, by_div HV0.out, HR0.out, HR1e.out, hq.out.1]
              have hRn : R2 = U / 4294967296 ^ i % V := by
                rw [HWu.out, by_mod, HR0.out, HR1e.out, hq.out.2]
              rw [hQn] at hput
              rw [hRn] at hoth
              have P1 := Lib.hid hput; have P2 := Lib.hid hoth; clear hput hoth hQn hRn
              have e1 : IntKind.u32.wrap (d : Int) = (d : Int) := IntWalk.u32_in _ ⟨by omega, by omega⟩
              generalize dig (X / V * 4294967296 ^ (i + 1)) i = dl5 at *
              go_wp2
              go_roundw
              case rel => exact ⟨i, by omega, by go_num, P1.out, P2.out, hbel2.out⟩
              case measure => simp [intOf]
            · have hcv : 0 ≤ cmpN R2 V := by unfold cmpN; rw [if_neg (by omega)]; split <;> omega
              obtain ⟨hx1, hx2⟩ := guess_spec (n := v + 1) (by omega) hlV.out hge
              have hx3 : guessN R2 V (v + 1) + d < 4294967296 := by
                have h1 : (guessN R2 V (v + 1) + d) * V ≤ R1 := by rw [Nat.add_mul, ← HSm.out]; omega
                have h2 : guessN R2 V (v + 1) + d ≤ R1 / V := (Nat.le_div_iff_mul_le HV0.out).2 h1
                have := HDv.out; omega
              have hnew : Hid ((d + guessN R2 V (v + 1)) * V + (R2 - guessN R2 V (v + 1) * V) = R1) := Lib.hid (by rw [Nat.add_mul, ← HSm.out]; omega)
              have hmx : Hid (d < R1 / V) := Lib.hid (by
                have h2 : (d + guessN R2 V (v + 1)) * V ≤ R1 := by have := hnew.out; omega
                have := (Nat.le_div_iff_mul_le HV0.out).2 h2; omega)
              have hd1 := HDv.out
              have hcB : V ≤ R2 := hge
              generalize hcc2 : cmpN R2 V = c at *
              have HCc := Lib.hid hcc2; clear hcc2 hge hcB
              go_wp2_with fail
              refine (cmp_any _ _ (v + 2) _ (v + 1) _ R2 V _ (by omega) (by omega) HZ2.out.num HVw.out).mono ?_
              rintro e w6 ⟨rfl, hb6⟩
              rw [HCc.out]
              have HT1 := Lib.hid (HZ1.out.below hb6 hsz1); have HT2 := Lib.hid (HZ2.out.below hb6 hsz2); have HBt := Lib.hid (HBz.out.trans (hb6.mono (Nat.le_of_lt hsz1))); have HVt := Lib.hid (HVw.out.next hb6)
              clear hb6 HVw HZ1 HZ2
              have hst1 := HT1.out.lt; have hst2 := HT2.out.lt
              go_wp2_with fail
              refine (guess_any _ _ v _ _ R2 V _ (by omega) HT2.out.num HVt.out).mono ?_
              rintro e w7 ⟨rfl, hb7⟩
              have HS1 := Lib.hid (HT1.out.below hb7 hst1); have HS2 := Lib.hid (HT2.out.below hb7 hst2); have HBs := Lib.hid (HBt.out.trans (hb7.mono (Nat.le_of_lt hst1))); have HVs := Lib.hid (HVt.out.next hb7)
              clear hb7 HVt HT1 HT2
              have hss1 := HS1.out.lt; have hss2 := HS2.out.lt
              generalize guessN R2 V (v + 1) = x at *
              have HX2' := Lib.hid hx2; clear hx2
              go_wp2_with fail
              refine (sub_any _ _ g2 (v + 2) (v + 1) _ R2 V x _ rfl (by omega) (by omega) (by omega) HX2'.out HS2.out HVs.out hne.out).mono ?_
              rintro e w8 ⟨rfl, ha8, hg8⟩
              have HU1 := Lib.hid (HS1.out.grown hg8 (by intro h; injection h; omega)); have HU2 := Lib.hid ha8; have HBu := Lib.hid (HBs.out.grown hg8 (Nat.le_of_lt hss1) (by intro k hk; cases hk; omega))
              clear ha8 hg8 HS1 HS2 HVs
              have hdx : (d : Int) + (x : Int) < 4294967296 := by omega
              go_wp2
              go_roundw
              case rel => exact ⟨d + x, R2 - x * V, by go_num, hnew.out, HU1.out, HU2.out, HBu.out⟩
              case measure => simp [intOf]; have := hmx.out; omega
        · obtain ⟨j, rfl⟩ : ∃ i, j = i + 1 := ⟨j - 1, by omega⟩
          have c1 := HY2.out.cell (i := j) (by omega)
          have c2 := HY2.out.cell (i := j + 1) (by omega)
          have f1 := HY2.out.frozen (j + 1)
          have i1 : (j : Int) < (v : Int) + 2 := by omega
          have i2 : (j : Int) + 1 < (v : Int) + 2 := by omega
          have hput := HY2.out.set (j := j + 1) (v := dig L j) (by omega) (dig_lt _ _)
          have hoth := HY1.out.other (g' := g2) (j := j + 1) (.int .u32 (dig L j : Int)) hgg
          have hstep := Lib.hid (shift_step (by omega) HDg.out)
          have hbel2 : Hid (Below g1 w3 (wr.setCell ⟨g2, j + 1, none⟩ (.int .u32 (dig L j : Int)))) := Lib.hid (HBl.out.setCell (by simp; omega) _)
          have P1 := Lib.hid hput; have P2 := Lib.hid hoth; clear hput hoth
          generalize dig L j = dl at *
          generalize dig L (j + 1) = dl2 at *
          go_wp2
          go_roundw
          case rel => exact ⟨j, _, by omega, by go_num, hstep.out, P2.out, P1.out, hbel2.out⟩
          case measure => simp [intOf]

theorem by_any (A1 A2 : Option Addr) (n cp1 m cp2 N M : Nat) (w : World) (hn : n ≤ 17592186044416) (hm : m ≤ 17592186044416) (h0 : M ≠ 0) (h : NumR w w.heap.size A1 n N) (h2 : NumR w w.heap.size A2 m M) :
    Calls Try.prog 142 #[.slice A1 n cp1, .slice A2 m cp2] w fun e w' => NumQP w (N / M) (N % M) e w' := by
  rcases Nat.lt_or_ge N M with hlt | hge
  · rw [Nat.div_eq_of_lt hlt, Nat.mod_eq_of_lt hlt]
    exact by_small A1 A2 n cp1 m cp2 N M w hn hm hlt h h2
  · exact by_great A1 A2 n cp1 m cp2 N M w hn hm hge h0 h h2

end Go.Proofs.Ytamaeggkpdgaiaa
