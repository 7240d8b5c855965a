/- The walk of the reference's numbers: Right. -/
import Derived.Test.YtamaeggkpdgaiaaNh
namespace Go.Proofs.Ytamaeggkpdgaiaa
open Go.RowKit

/-- What Right answers: a number, and whether something was lost. -/
def NumBP (w : World) (N : Nat) (e : Ending) (w' : World) : Prop :=
  ∃ A cap lb, e = .returned (.tuple #[.slice A (wN N) cap, .bool lb]) ∧ NumR w' w'.heap.size A (wN N) N ∧ Shape A (wN N) cap ∧ Below w.heap.size w w'

theorem dig_right {N q s j : Nat} (hs : s < 32) : dig (N / 2 ^ (32 * q + s)) j = (dig N (q + j) + dig N (q + j + 1) * 4294967296) / 2 ^ s % 4294967296 := by
  have h1 : N / 2 ^ (32 * q + s) / 4294967296 ^ j = N / 4294967296 ^ (q + j) / 2 ^ s := by
    rw [Nat.div_div_eq_div_mul, Nat.div_div_eq_div_mul, Nat.pow_add, ← pow32, Nat.pow_add 4294967296 q j]
    congr 1; ac_rfl
  have h2 : dig N (q + j) + dig N (q + j + 1) * 4294967296 = N / 4294967296 ^ (q + j) % (4294967296 * 4294967296) := by
    unfold dig
    rw [Nat.pow_succ, ← Nat.div_div_eq_div_mul, Nat.mod_mul, Nat.mul_comm]
  have h3 : dig (N / 2 ^ (32 * q + s)) j = N / 2 ^ (32 * q + s) / 4294967296 ^ j % 4294967296 := rfl
  rw [h3, h1, h2]
  generalize N / 4294967296 ^ (q + j) = M
  obtain ⟨d, hd⟩ : ∃ d, (4294967296 : Nat) = 2 ^ s * d := ⟨2 ^ (32 - s), by rw [← Nat.pow_add, show s + (32 - s) = 32 from by omega]⟩
  rw [show (4294967296 * 4294967296 : Nat) = 2 ^ s * (4294967296 * d) from by rw [Nat.mul_left_comm, ← hd], Nat.mod_mul_right_div_self, Nat.mod_mul_right_mod]
theorem right_lt {N q s m : Nat} (h : N < 4294967296 ^ m) (hq : q ≤ m) : N / 2 ^ (32 * q + s) < 4294967296 ^ (m - q) := by
  rw [Nat.div_lt_iff_lt_mul (Nat.two_pow_pos _), Nat.pow_add, ← pow32]
  have e : 4294967296 ^ m = 4294967296 ^ (m - q) * 4294967296 ^ q := by rw [← Nat.pow_add, show m - q + q = m from by omega]
  have h2 : 4294967296 ^ (m - q) * 4294967296 ^ q ≤ 4294967296 ^ (m - q) * (4294967296 ^ q * 2 ^ s) := Nat.mul_le_mul_left _ (Nat.le_mul_of_pos_right _ (Nat.two_pow_pos s))
  omega
theorem right_zero {N k : Nat} (h : wN N ≤ k / 32) : N / 2 ^ k = 0 := by
  apply Nat.div_eq_of_lt
  refine Nat.lt_of_lt_of_le (lt_wN N) ?_
  rw [pow32]; exact Nat.pow_le_pow_right (by decide) (by omega)
theorem or_low_high {a b : Nat} (ha : a < 4294967296) (hb : b < 4294967296) : bits .or .u64 (a : Int) ((b : Int) * 4294967296) = ((a + b * 4294967296 : Nat) : Int) := by
  have h := u64_or_nat a (b * 4294967296) (by omega) (by omega)
  have e : ((b * 4294967296 : Nat) : Int) = (b : Int) * 4294967296 := by omega
  rw [e] at h
  rw [h]
  congr 1
  have := nat_join 32 (b * 4294967296) a (by omega) (by simpa using ha)
  rw [Nat.or_comm]; omega

set_option maxRecDepth 100000 in
set_option maxHeartbeats 1000000 in
theorem right_small (A : Option Addr) (n cap N k : Nat) (w : World) (hn : n ≤ 140737488351232) (hk : k < 4611686018427387904) (hz : wN N ≤ k / 32) (h : NumR w w.heap.size A n N) :
    Calls Try.prog 158 #[.slice A n cap, .int .i64 (k : Int)] w fun e w' => NumBP w 0 e w' := by
  have HN := Lib.hid h; clear h
  have t1 : decide ((wN N : Int) ≤ (k : Int) / 32) = true := by simp; omega
  cases t0 : ((wN N : Int) == 0)
  all_goals
    go_enter Try.func158, Try.ntmps158
    go_wp2_with (go_at_call 155; refine (words_any A n cap N _ hn HN.out).mono ?_; rintro e w' ⟨rfl, rfl⟩)
    go_ret2
    exact ⟨none, 0, _, rfl, NumR.zero, .inl ⟨rfl, rfl, rfl⟩, Below.refl _ _⟩

set_option maxRecDepth 100000 in
set_option maxHeartbeats 2000000 in
theorem right_pos (A : Option Addr) (n cap N q s : Nat) (w : World) (hn : n ≤ 35184372088832) (hs : s < 32) (hq : q < wN N) (h : NumR w w.heap.size A n N) :
    Calls Try.prog 158 #[.slice A n cap, .int .i64 ((32 * q + s : Nat) : Int)] w fun e w' => NumBP w (N / 2 ^ (32 * q + s)) e w' := by
  obtain ⟨i0, hi, hz0, hz1, hz2'⟩ := info_parts infoW
  have HN := Lib.hid h; clear h
  have hwn := HN.out.words
  have t0 : ((wN N : Int) == 0) = false := by simp; omega
  have q1 : ((32 * q + s : Nat) : Int) / 32 = (q : Int) := by omega
  have q2 : ((32 * q + s : Nat) : Int) % 32 = (s : Int) := by omega
  have t1 : decide ((wN N : Int) ≤ (q : Int)) = false := by simp; omega
  have t2 : decide (wN N ≤ q) = false := by simp; omega
  have HDig := Lib.hid (fun j => dig_right (N := N) (q := q) (j := j) hs)
  have HLt := Lib.hid (right_lt (s := s) (lt_wN N) (Nat.le_of_lt hq))
  generalize hk : 32 * q + s = k at *
  obtain ⟨b, off, rfl, hbB, hc⟩ := HN.out.cells (by omega) (Below.refl _ _)
  have HC := Lib.hid hc; clear hc
  have c0 := HC.out q (by omega)
  have i0' : (q : Int) < (n : Int) := by omega
  have hs32 : (s : Int) < 32 := by omega
  have hqn : q + 1 ≤ n := by omega
  have HK := Lib.hid hk; clear hk
  go_enter Try.func158, Try.ntmps158
  go_upto_region 7 with (go_at_call 155; refine (words_any _ n cap N _ (by omega) HN.out).mono ?_; rintro e w' ⟨rfl, rfl⟩)
  go_cut [8] (fun v wc => (∃ lb, v = .bool lb) ∧ w = wc)
  case first =>
    go_wp2
    all_goals
      go_meet
      exact ⟨⟨_, rfl⟩, rfl⟩
  case rest =>
    obtain ⟨⟨lb, rfl⟩, rfl⟩ := hcut
    clear c0 i0'
    go_wp2
    go_loop [8, 9] (fun v i => (∃ lb, v = .bool lb) ∧ ∃ j : Nat, j ≤ q ∧ i = .int .i64 (j : Int)) (fun _ i => q - (intOf i).toNat)
    case atStart => exact ⟨⟨_, rfl⟩, 0, Nat.zero_le _, rfl⟩
    case round =>
      obtain ⟨⟨lb2, rfl⟩, j, hj, rfl⟩ := hrel
      by_cases hlt : j < q
      · have c1 := HC.out j (by omega)
        have i1 : (j : Int) < (n : Int) := by omega
        cases lb2
        all_goals
          go_wp2
          go_round
          case rel => exact ⟨⟨_, rfl⟩, j + 1, by omega, by go_num⟩
          case measure => simp [intOf]; omega
      · go_wp2
        go_loopw [10, 11, 12] (fun v i _ wr => ∃ j : Nat, q + j ≤ wN N ∧ i = .int .i64 ((q : Int) + (j : Int)) ∧ wr.ownsRow w.heap.size 22 1 v j (flatN j 1 (fW (N / 2 ^ k))) ∧ Below w.heap.size w wr) (fun _ i _ _ => wN N - (intOf i).toNat)
        case atStart => exact ⟨0, by omega, by go_num, ⟨rfl, Or.inl ⟨rfl, rfl⟩⟩, Below.refl _ _⟩
        case round =>
          obtain ⟨j, hj, rfl, hown, hbel⟩ := hrel
          have HO := Lib.hid hown; have HBel := Lib.hid hbel; clear hown hbel
          have hsz := HBel.out.size
          by_cases hlt : q + j < wN N
          · have c1 : wr.cell? ⟨b, off + (q + j), none⟩ = some (.int .u32 (dig N (q + j) : Int)) := by rw [HBel.out.cell (p := ⟨b, _, none⟩) hbB]; exact HC.out (q + j) (by omega)
            have i1 : (q : Int) + (j : Int) < (n : Int) := by omega
            have hd := HDig.out j
            have d1 := dig_lt N (q + j); have d2 := dig_lt N (q + j + 1)
            by_cases hz2 : q + j + 1 < wN N
            · have c2 : wr.cell? ⟨b, off + (q + j + 1), none⟩ = some (.int .u32 (dig N (q + j + 1) : Int)) := by rw [HBel.out.cell (p := ⟨b, _, none⟩) hbB]; exact HC.out (q + j + 1) (by omega)
              have i2 : (q : Int) + (j : Int) + 1 < (n : Int) := by omega
              generalize dig N (q + j) = x at *
              generalize dig N (q + j + 1) = y at *
              have e1 := or_low_high d1 d2
              have hzz : x + y * 4294967296 < 18446744073709551616 := by omega
              generalize x + y * 4294967296 = z at *
              have hz' : z / 2 ^ s < 18446744073709551616 := Nat.lt_of_le_of_lt (Nat.div_le_self _ _) hzz
              have e2 : bits .and .u64 ((z : Int) / 2 ^ s) 4294967295 = ((dig (N / 2 ^ k) j : Nat) : Int) := by
                have := and_low32 hz'
                rw [hd, ← this]; simp
              have hdl := dig_lt (N / 2 ^ k) j
              generalize hdd : dig (N / 2 ^ k) j = dd at *
              have HD := Lib.hid hdd
              have e3 : IntKind.u32.wrap (dd : Int) = (dd : Int) := IntWalk.u32_in _ ⟨by omega, by omega⟩
              have e4 : (dd : Int) % 4294967296 = (dd : Int) := by omega
              clear hd hdd hzz hz'
              go_wp2_with (at_builtin; (refine wpList_append_own _ rfl _ _ 106 rfl w.heap.size 22 i0 _ 1 4 Try.underlying106 hi hz0 hz1 hz2' rfl (by decide) _ j _ rfl (HO.out.alloc _) ⟨wr.heap.size, 0, none⟩ 1 1 [.int .u32 (dd : Int)] rfl rfl ?c1 ?c2 ?c3 ?c4 ?c5 ?_))
              case c1 => exact new_cells wr [.int .u32 (dd : Int)] _
              case c2 => intro u hu; simp at hu; subst hu; rfl
              case c3 => unfold maxLen; omega
              case c4 => omega
              case c5 => simp; omega
              intro v' w2 hown2 hgrow _
              have hrel2 : Hid (w2.ownsRow w.heap.size 22 1 v' (j + 1) (flatN (j + 1) 1 (fW (N / 2 ^ k))) ∧ Below w.heap.size w w2) := Lib.hid ⟨by rw [flatN_succ]; simp only [List.range_one, List.map_cons, List.map_nil, fW]; rw [HD.out]; exact hown2, (HBel.out.alloc (by omega) _).grown hgrow (by simp; omega) fun g hg => own_block HO.out hg⟩
              clear hown2 hgrow hsz
              go_wp2
              go_roundw
              case rel => exact ⟨j + 1, by omega, by go_num, hrel2.out.1, hrel2.out.2⟩
              case measure => simp [intOf]; omega
            · have hy0 : dig N (q + j + 1) = 0 := dig_high (lt_wN N) (by omega)
              rw [hy0, Nat.zero_mul, Nat.add_zero] at hd
              generalize dig N (q + j) = x at *
              have hz' : x / 2 ^ s < 18446744073709551616 := Nat.lt_of_le_of_lt (Nat.div_le_self _ _) (by omega)
              have e2 : bits .and .u64 ((x : Int) / 2 ^ s) 4294967295 = ((dig (N / 2 ^ k) j : Nat) : Int) := by
                have := and_low32 hz'
                rw [hd, ← this]; simp
              have hdl := dig_lt (N / 2 ^ k) j
              generalize hdd : dig (N / 2 ^ k) j = dd at *
              have HD := Lib.hid hdd
              have e3 : IntKind.u32.wrap (dd : Int) = (dd : Int) := IntWalk.u32_in _ ⟨by omega, by omega⟩
              have e4 : (dd : Int) % 4294967296 = (dd : Int) := by omega
              clear hd hdd hz' hy0 d2
              go_wp2_with (at_builtin; (refine wpList_append_own _ rfl _ _ 106 rfl w.heap.size 22 i0 _ 1 4 Try.underlying106 hi hz0 hz1 hz2' rfl (by decide) _ j _ rfl (HO.out.alloc _) ⟨wr.heap.size, 0, none⟩ 1 1 [.int .u32 (dd : Int)] rfl rfl ?c1 ?c2 ?c3 ?c4 ?c5 ?_))
              case c1 => exact new_cells wr [.int .u32 (dd : Int)] _
              case c2 => intro u hu; simp at hu; subst hu; rfl
              case c3 => unfold maxLen; omega
              case c4 => omega
              case c5 => simp; omega
              intro v' w2 hown2 hgrow _
              have hrel2 : Hid (w2.ownsRow w.heap.size 22 1 v' (j + 1) (flatN (j + 1) 1 (fW (N / 2 ^ k))) ∧ Below w.heap.size w w2) := Lib.hid ⟨by rw [flatN_succ]; simp only [List.range_one, List.map_cons, List.map_nil, fW]; rw [HD.out]; exact hown2, (HBel.out.alloc (by omega) _).grown hgrow (by simp; omega) fun g hg => own_block HO.out hg⟩
              clear hown2 hgrow hsz
              go_wp2
              go_roundw
              case rel => exact ⟨j + 1, by omega, by go_num, hrel2.out.1, hrel2.out.2⟩
              case measure => simp [intOf]; omega
          · obtain ⟨A', cap', rfl⟩ := own_form HO.out
            have hjm : Hid (wN N - q = j) := Lib.hid (by omega)
            have hnum : Hid (NumR wr wr.heap.size A' j (N / 2 ^ k)) := Lib.hid ⟨by have := HLt.out; rwa [hjm.out] at this, RowN.of_own HO.out⟩
            go_wp2_with fail
            refine (norm_any _ _ _ (N / 2 ^ k) _ (by omega) hnum.out).mono ?_
            rintro e w2 hP
            have HP := Lib.hid hP
            obtain ⟨A2, cap2, rfl, -, -, -⟩ := hP
            go_wp2
            go_ret2
            obtain ⟨A3, cap3, he, h1, h2, h3⟩ := HP.out
            cases he
            exact ⟨A2, cap2, _, rfl, h1, h2, HBel.out.trans (h3.mono hsz)⟩

theorem right_any (A : Option Addr) (n cap N k : Nat) (w : World) (hn : n ≤ 35184372088832) (hk : k < 4611686018427387904) (h : NumR w w.heap.size A n N) :
    Calls Try.prog 158 #[.slice A n cap, .int .i64 (k : Int)] w fun e w' => NumBP w (N / 2 ^ k) e w' := by
  rcases Nat.lt_or_ge (k / 32) (wN N) with h1 | h1
  · have := right_pos A n cap N (k / 32) (k % 32) w hn (Nat.mod_lt _ (by decide)) h1 h
    rwa [Nat.div_add_mod] at this
  · rw [right_zero h1]
    exact right_small A n cap N k w (by omega) hk h1 h

end Go.Proofs.Ytamaeggkpdgaiaa
