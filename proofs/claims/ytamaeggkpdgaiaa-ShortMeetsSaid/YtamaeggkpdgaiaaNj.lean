/- The walk of the reference's product of numbers: Times. -/
import Derived.Test.YtamaeggkpdgaiaaNh
namespace Go.Proofs.Ytamaeggkpdgaiaa
open Go.RowKit

theorem setD_div {L j v : Nat} (hv : v < 4294967296) : setD L j v / 4294967296 ^ (j + 1) = L / 4294967296 ^ (j + 1) := by
  have h1 := Nat.mod_lt L (bbp j)
  have h3 : L % 4294967296 ^ j + v * 4294967296 ^ j < 4294967296 ^ (j + 1) := by
    rw [Nat.pow_succ]
    have : v * 4294967296 ^ j ≤ 4294967295 * 4294967296 ^ j := Nat.mul_le_mul_right _ (by omega)
    omega
  rw [setD_split, Nat.add_mul_div_right _ _ (bbp _), Nat.div_eq_of_lt h3, Nat.zero_add]
/-- One word of a row of a product. -/
theorem times_step {L L0 N y i j c x d t : Nat} (h : L + c * 4294967296 ^ (i + j) = L0 + N % 4294967296 ^ i * y * 4294967296 ^ j) (hx : dig N i = x) (hd : dig L (i + j) = d) (ht : t = c + d + x * y) :
    setD L (i + j) (t % 4294967296) + t / 4294967296 * 4294967296 ^ (i + 1 + j) = L0 + N % 4294967296 ^ (i + 1) * y * 4294967296 ^ j := by
  have h1 := setD_add L (i + j) (t % 4294967296)
  rw [hd] at h1
  have e1 : t / 4294967296 * 4294967296 ^ (i + 1 + j) = 4294967296 * (t / 4294967296) * 4294967296 ^ (i + j) := by
    rw [show i + 1 + j = i + j + 1 from by omega, Nat.pow_succ]; ac_rfl
  have e2 : t % 4294967296 * 4294967296 ^ (i + j) + 4294967296 * (t / 4294967296) * 4294967296 ^ (i + j) = t * 4294967296 ^ (i + j) := by rw [← Nat.add_mul, Nat.mod_add_div]
  have e3 : t * 4294967296 ^ (i + j) = c * 4294967296 ^ (i + j) + d * 4294967296 ^ (i + j) + x * y * 4294967296 ^ (i + j) := by rw [ht, Nat.add_mul, Nat.add_mul]
  rw [mod_succ, hx, Nat.add_mul, Nat.add_mul, e1]
  have e4 : x * 4294967296 ^ i * y * 4294967296 ^ j = x * y * 4294967296 ^ (i + j) := by rw [Nat.pow_add]; ac_rfl
  omega
theorem times_lt {N M j n : Nat} (h : N < 4294967296 ^ n) : N * (M % 4294967296 ^ j) < 4294967296 ^ (n + j) := by
  rw [Nat.pow_add]
  exact Nat.mul_lt_mul'' h (Nat.mod_lt _ (bbp j))
theorem times_next {N M j : Nat} : N * (M % 4294967296 ^ j) + N * dig M j * 4294967296 ^ j = N * (M % 4294967296 ^ (j + 1)) := by
  rw [mod_succ, Nat.mul_add, Nat.mul_assoc]
theorem carry_lt {c d x y : Nat} (hc : c < 4294967296) (hd : d < 4294967296) (hx : x < 4294967296) (hy : y < 4294967296) : x * y ≤ 18446744065119617025 ∧ (c + d + x * y) / 4294967296 < 4294967296 := by
  have h : x * y ≤ 4294967295 * 4294967295 := Nat.mul_le_mul (by omega) (by omega)
  omega

set_option maxRecDepth 100000 in
set_option maxHeartbeats 2000000 in
theorem times_any (A1 A2 : Option Addr) (n cp1 m cp2 N M : Nat) (w : World) (hn : n ≤ 17592186044416) (hm : m ≤ 17592186044416) (h : NumR w w.heap.size A1 n N) (h2 : NumR w w.heap.size A2 m M) :
    Calls Try.prog 161 #[.slice A1 n cp1, .slice A2 m cp2] w fun e w' => NumP w (N * M) e w' := by
  obtain ⟨i0, hi, hz0, hz1, hz2⟩ := info_parts infoW
  have HN := Lib.hid h; have HM := Lib.hid h2; clear h h2
  have hwn := HN.out.words; have hwm := HM.out.words
  have hlen : (wN N : Int) + (wN M : Int) ≤ 35184372088832 := by omega
  go_enter Try.func161, Try.ntmps161
  go_wp2_with (first
    | (go_at_call 155; first | ((with_reducible refine (words_any A1 n cp1 N _ (by omega) HN.out).mono ?_); rintro e w' ⟨rfl, rfl⟩) | ((with_reducible refine (words_any A2 m cp2 M _ (by omega) HM.out).mono ?_); rintro e w' ⟨rfl, rfl⟩))
    | (at_make; (refine wpList_make_full _ rfl _ _ 106 rfl 0 22 i0 _ 1 Try.underlying106 hi hz0 hz1 .i64 .i64 _ _ (wN N + wN M) rfl rfl ?hL ?hC ?b2 ?b3 (Nat.zero_le _) ?_)))
  case hL => omega
  case hC => omega
  case b2 => rw [hz2]; omega
  case b3 => unfold maxLen; omega
  intro w1 hown hgrow
  have hma := ArrN.made hown
  have hb1 : Below w.heap.size w w1 := (Below.refl _ _).grown hgrow (Nat.le_refl _) (by intro k hk; cases hk)
  have HA := Lib.hid hma; have HB := Lib.hid hb1; clear hma hb1 hown hgrow
  go_wp2
  go_loopw [8] (fun v wr => ∃ j : Nat, j ≤ wN M ∧ v = .int .i64 (j : Int) ∧ ArrN wr 22 w.heap.size (wN N + wN M) (N * (M % 4294967296 ^ j)) ∧ Below w.heap.size w wr) (fun v _ => wN M - (intOf v).toNat)
  case atStart => exact ⟨0, Nat.zero_le _, rfl, by simpa [Nat.mod_one] using HA.out, HB.out⟩
  case round =>
    obtain ⟨j, hj, rfl, harr, hbel⟩ := hrel
    have HAr := Lib.hid harr; have HBel := Lib.hid hbel; clear harr hbel
    have hsz := HBel.out.size
    by_cases hlt : j < wN M
    · obtain ⟨b, off, rfl, hbB, hc⟩ := HM.out.cells (by omega) HBel.out
      have c1 := hc j (by omega)
      have HC := Lib.hid hc; clear hc
      have i1 : (j : Int) < (m : Int) := by omega
      have d1 := dig_lt M j
      generalize hy : dig M j = y at *
      have HY := Lib.hid hy; clear hy
      cases hyz : ((y : Int) == 0)
      case true =>
        have hy0 : y = 0 := by simpa using hyz
        have hnext : Hid (N * (M % 4294967296 ^ j) = N * (M % 4294967296 ^ (j + 1))) := Lib.hid (by rw [← times_next, HY.out, hy0]; simp)
        rw [hnext.out] at HAr
        clear hy0
        go_wp2
        go_roundw
        case rel => exact ⟨j + 1, by omega, by go_num, HAr.out, HBel.out⟩
        case measure => simp [intOf]; omega
      case false =>
        go_wp2
        obtain ⟨wo, rfl⟩ : ∃ wo : World, wo = wr := ⟨_, rfl⟩
        have hL0 := Lib.hid (times_lt (M := M) (j := j) (lt_wN N))
        have hN0 : Hid (N * (M % 4294967296 ^ j) + N * y * 4294967296 ^ j = N * (M % 4294967296 ^ (j + 1))) := Lib.hid (by rw [← times_next, HY.out])
        generalize N * (M % 4294967296 ^ j) = L0 at *
        generalize hL1 : N * (M % 4294967296 ^ (j + 1)) = L1 at *
        have HL1 := Lib.hid hL1; clear hL1
        go_loopw [10, 11] (fun cv iv wr => ∃ i c L : Nat, i ≤ wN N ∧ c < 4294967296 ∧ iv = .int .i64 (i : Int) ∧ cv = .int .u64 (c : Int) ∧ L + c * 4294967296 ^ (i + j) = L0 + N % 4294967296 ^ i * y * 4294967296 ^ j ∧ L / 4294967296 ^ (i + j) = L0 / 4294967296 ^ (i + j) ∧ ArrN wr 22 w.heap.size (wN N + wN M) L ∧ Below w.heap.size w wr) (fun _ iv _ => wN N - (intOf iv).toNat)
        case atStart => exact ⟨0, 0, L0, Nat.zero_le _, by omega, rfl, rfl, by simp [Nat.mod_one], rfl, HAr.out, HBel.out⟩
        case round =>
          obtain ⟨i, c, L, hil, hcl, rfl, rfl, hsum, hdiv, harr, hbel⟩ := hrel
          have HS := Lib.hid hsum; have HD := Lib.hid hdiv; have HA1 := Lib.hid harr; have HB1 := Lib.hid hbel; clear hsum hdiv harr hbel
          have hsz1 := HB1.out.size
          by_cases hlt2 : i < wN N
          · obtain ⟨b1, off1, eA, hbB1, hc1⟩ := HN.out.cells (by omega) HB1.out
            subst eA
            have c2 := hc1 i (by omega)
            have c3 := HA1.out.cell (i := i + j) (by omega)
            clear hc1
            have hs1 : b1 < wr.heap.size := by omega
            have hs2 := HA1.out.lt
            have i2 : (i : Int) < (n : Int) := by omega
            have i3 : (i : Int) + (j : Int) < ((wN N + wN M : Nat) : Int) := by omega
            have i6 : (i : Int) + (j : Int) < (wN N : Int) + (wN M : Int) := by omega
            have i7 : ((i : Int) + (j : Int)).toNat = i + j := by omega
            have i4 : IntKind.i64.wrap ((i : Int) + (j : Int)) = (i : Int) + (j : Int) := IntWalk.i64_in _ ⟨by omega, by omega⟩
            have i5 : 0 ≤ (i : Int) + (j : Int) := by omega
            have hx := dig_lt N i; have hd := dig_lt L (i + j)
            generalize hxx : dig N i = x at *
            generalize hdd : dig L (i + j) = d at *
            obtain ⟨hxy, hcarry⟩ := carry_lt hcl hd hx d1
            have hstep := times_step (t := c + d + x * y) HS.out hxx hdd rfl
            have hllt : (c + d + x * y) % 4294967296 < 4294967296 := Nat.mod_lt _ (by decide)
            have hdiv2 : setD L (i + j) ((c + d + x * y) % 4294967296) / 4294967296 ^ (i + 1 + j) = L0 / 4294967296 ^ (i + 1 + j) := by
              rw [show i + 1 + j = i + j + 1 from by omega, setD_div (Nat.mod_lt _ (by decide)), Nat.pow_succ, ← Nat.div_div_eq_div_mul, HD.out, Nat.div_div_eq_div_mul]
            have e1 : IntKind.u64.wrap ((c : Int) + (d : Int)) = (c : Int) + (d : Int) := IntWalk.u64_in _ ⟨by omega, by omega⟩
            have e2 : IntKind.u64.wrap ((x : Int) * (y : Int)) = ((x * y : Nat) : Int) := by
              rw [show (x : Int) * (y : Int) = ((x * y : Nat) : Int) from by simp]; exact IntWalk.u64_in _ ⟨by omega, by omega⟩
            generalize x * y = xy at *
            have e3 : IntKind.u64.wrap ((c : Int) + (d : Int) + (xy : Int)) = ((c + d + xy : Nat) : Int) := by
              rw [show ((c + d + xy : Nat) : Int) = (c : Int) + (d : Int) + (xy : Int) from by omega]; exact IntWalk.u64_in _ ⟨by omega, by omega⟩
            have htb : c + d + xy < 18446744073709551616 := by omega
            generalize c + d + xy = t at *
            have e4 : bits .and .u64 (t : Int) 4294967295 = ((t % 4294967296 : Nat) : Int) := and_low32 htb
            have e5 : (t : Int) / 4294967296 = ((t / 4294967296 : Nat) : Int) := by omega
            generalize hlo : t % 4294967296 = lo at *
            generalize hhi : t / 4294967296 = hi' at *
            have e6 : IntKind.u32.wrap (lo : Int) = (lo : Int) := IntWalk.u32_in _ ⟨by omega, by omega⟩
            have e7 : (lo : Int) % 4294967296 = (lo : Int) := by omega
            have HSt := Lib.hid hstep; have HDi := Lib.hid hdiv2
            clear hstep hdiv2 hxx hdd hxy htb hlo hhi
            go_wp2
            refine region_quiet (by kernel_rfl) (by kernel_rfl) ?_
            repeat (refine wpQuiet_step (fun K hK => ?_); go_simp; first | (refine hK _ ?_; clear hK K))
            refine wpQuiet_nil ?_
            intro w2 hb2
            have HA2 := Lib.hid (HA1.out.below hb2 hs2); have HB2 := Lib.hid (HB1.out.trans (hb2.mono hsz1))
            have hsz2 := hb2.size
            clear hb2 c2 c3
            have f1 := HA2.out.frozen (i + j)
            have c4 := HA2.out.cell (i := i + j) (by omega)
            have HSe := Lib.hid (HA2.out.set (j := i + j) (v := lo) (by omega) hllt)
            have HB3 : Hid (Below w.heap.size w (w2.setCell ⟨w.heap.size, i + j, none⟩ (.int .u32 (lo : Int)))) := Lib.hid (HB2.out.setCell (by simp) _)
            go_wp2
            go_roundw
            case rel => exact ⟨i + 1, hi', _, by omega, hcarry, by go_num, by rw [e2, e3, e5], HSt.out, HDi.out, HSe.out, HB3.out⟩
            case measure => simp [intOf]; omega
          · obtain rfl : i = wN N := by omega
            rw [Nat.mod_eq_of_lt (lt_wN N)] at HS
            have hL : Hid (L < 4294967296 ^ (wN N + j)) := Lib.hid (by
              have h1 := HD.out
              rw [Nat.div_eq_of_lt hL0.out] at h1
              exact (Nat.div_eq_zero_iff_lt (bbp _)).1 h1)
            have hd0 : Hid (dig L (wN N + j) = 0) := Lib.hid (dig_high hL.out (Nat.le_refl _))
            have hfin : Hid (setD L (j + wN N) c = L1) := Lib.hid (by
              have h1 := setD_add L (wN N + j) c
              rw [hd0.out] at h1
              have h2 := HS.out; have h3 := hN0.out
              rw [Nat.add_comm j (wN N)]; omega)
            have c4 := HA1.out.cell (i := j + wN N) (by omega)
            have f1 := HA1.out.frozen (j + wN N)
            have HSe := HA1.out.set (j := j + wN N) (v := c) (by omega) hcl
            rw [hfin.out] at HSe
            have HSe2 := Lib.hid HSe; clear HSe
            have i3 : (j : Int) + (wN N : Int) < ((wN N + wN M : Nat) : Int) := by omega
            have HB3 : Hid (Below w.heap.size w (wr.setCell ⟨w.heap.size, j + wN N, none⟩ (.int .u32 (c : Int)))) := Lib.hid (HB1.out.setCell (by simp) _)
            have e1 : IntKind.u32.wrap (c : Int) = (c : Int) := IntWalk.u32_in _ ⟨by omega, by omega⟩
            go_wp2
            go_roundw
            case rel => exact ⟨j + 1, by omega, by go_num, by rw [HL1.out]; exact HSe2.out, HB3.out⟩
            case measure => simp [intOf]; omega
    · obtain rfl : j = wN M := by omega
      rw [Nat.mod_eq_of_lt (lt_wN M)] at HAr
      go_wp2_with fail
      refine (norm_any _ _ _ (N * M) _ (by omega) HAr.out.num).mono ?_
      rintro e w2 hP
      have HP := Lib.hid hP
      obtain ⟨A', cap', rfl, -, -, -⟩ := hP
      go_wp2
      go_ret
      exact NumP.below HP.out HBel.out

end Go.Proofs.Ytamaeggkpdgaiaa
