/- The walks of the reference's numbers: Left. -/
import Derived.Test.YtamaeggkpdgaiaaNf
import Derived.Test.YtamaeggkpdgaiaaNg
import Derived.Deep.DeepCutAuto
import Derived.Outline
namespace Go.Proofs.Ytamaeggkpdgaiaa
open Go.RowKit

theorem numP_zero (w : World) : NumP w 0 (.returned (.slice none 0 0)) w := ⟨none, 0, rfl, NumR.zero, .inl ⟨rfl, rfl, rfl⟩, Below.refl _ _⟩

set_option maxRecDepth 100000 in
set_option maxHeartbeats 1000000 in
theorem left_zero (A : Option Addr) (n cap : Nat) (k : Int) (w : World) (hn : n ≤ 140737488351232) (h : NumR w w.heap.size A n 0) :
    Calls Try.prog 139 #[.slice A n cap, .int .i64 k] w fun e w' => NumP w 0 e w' := by
  have HN := Lib.hid h; clear h
  have hw0 : wN 0 = 0 := rfl
  go_enter Try.func139, Try.ntmps139
  go_wp2_with (go_at_call 155; refine (words_any A n cap 0 _ hn HN.out).mono ?_; rintro e w' ⟨rfl, rfl⟩)
  go_ret
  exact numP_zero _

set_option maxRecDepth 100000 in
set_option maxHeartbeats 1000000 in
theorem left_pos (A : Option Addr) (n cap N q s : Nat) (w : World) (hn : n ≤ 140737488351232) (hs : s < 32) (hl : q + wN N + 1 ≤ 35184372088832) (h0 : N ≠ 0) (h : NumR w w.heap.size A n N) :
    Calls Try.prog 139 #[.slice A n cap, .int .i64 ((32 * q + s : Nat) : Int)] w fun e w' => NumP w (N * 2 ^ (32 * q + s)) e w' := by
  obtain ⟨i0, hi, hz0, hz1, hz2⟩ := info_parts infoW
  have HN := Lib.hid h; clear h
  have hwn := HN.out.words
  have hpos := wN_pos h0
  have t0 : ((wN N : Int) == 0) = false := by simp; omega
  have q1 : ((32 * q + s : Nat) : Int) / 32 = (q : Int) := by omega
  have q2 : ((32 * q + s : Nat) : Int) % 32 = (s : Int) := by omega
  have H0 := Lib.hid h0; clear h0
  generalize hk : 32 * q + s = k at *
  have HK := Lib.hid hk; clear hk
  obtain ⟨b, off, rfl, hbB, hc⟩ := HN.out.cells (by omega) (Below.refl _ _)
  have HC := Lib.hid hc; clear hc
  have hs32 : (s : Int) < 32 := by omega
  have hlen : (q : Int) + (wN N : Int) + 1 ≤ 35184372088832 := by omega
  go_enter Try.func139, Try.ntmps139
  go_wp2_with (first
    | (go_at_call 155; refine (words_any _ n cap N _ hn HN.out).mono ?_; rintro e w' ⟨rfl, rfl⟩)
    | (at_make; (refine wpList_make_full _ rfl _ _ 106 rfl 0 22 i0 _ 1 Try.underlying106 hi hz0 hz1 .i64 .i64 _ _ (q + wN N + 1) rfl rfl ?hL ?hC ?b2 ?b3 (Nat.zero_le _) ?_)))
  case hL => omega
  case hC => omega
  case b2 => rw [hz2]; omega
  case b3 => unfold maxLen; omega
  intro w1 hown hgrow
  have hm := ArrN.made hown
  have hb1 : Below w.heap.size w w1 := (Below.refl _ _).grown hgrow (Nat.le_refl _) (by intro k hk; cases hk)
  have hsz := hgrow.size
  clear hown hgrow
  have HM := Lib.hid hm; have HB := Lib.hid hb1; clear hm hb1
  go_wp2
  go_loopw [8, 9] (fun i v wr => ∃ j : Nat, j ≤ wN N ∧ i = .int .i64 (j : Int) ∧ ArrN wr 22 w.heap.size (q + wN N + 1) (N % 4294967296 ^ j * 2 ^ k) ∧ Below w.heap.size w wr) (fun i _ _ => wN N - (intOf i).toNat)
  case atStart => exact ⟨0, Nat.zero_le _, rfl, by simpa [Nat.mod_one] using HM.out, HB.out⟩
  case round =>
    obtain ⟨j, hj, rfl, harr, hbel⟩ := hrel
    by_cases hlt : j < wN N
    · have c1 : wr.cell? ⟨b, off + j, none⟩ = some (.int .u32 (dig N j : Int)) := by rw [hbel.cell (p := ⟨b, _, none⟩) hbB]; exact HC.out j (by omega)
      have i1 : (j : Int) < (n : Int) := by omega
      have d1 := dig_lt N j
      have c2 := harr.cell (i := q + j) (by omega)
      have i2 : (q : Int) + (j : Int) < ((q + wN N + 1 : Nat) : Int) := by omega
      have HA := Lib.hid harr; have HBel := Lib.hid hbel; clear harr hbel
      generalize hL : N % 4294967296 ^ j * 2 ^ k = L at *
      generalize hx : dig N j = x at *
      generalize hc0 : dig L (q + j) = c at *
      have hcs : c < 2 ^ s := by rw [← hc0, ← hL, ← HK.out]; exact left_carry
      have hp32 : 2 ^ s ≤ 2147483648 := by have := Nat.pow_le_pow_right (n := 2) (by decide) (show s ≤ 31 by omega); simpa using this
      have hy : x * 2 ^ s ≤ 9223372034707292160 := Nat.le_trans (Nat.mul_le_mul (show x ≤ 4294967295 by omega) hp32) (by decide)
      generalize hyy : x * 2 ^ s = y at *
      generalize hlo : y % 4294967296 = lo at *
      generalize hhi : y / 4294967296 = hi' at *
      have hl2 : lo % 2 ^ s = 0 := by
        obtain ⟨d, hd⟩ : ∃ d, (4294967296 : Nat) = 2 ^ s * d := ⟨2 ^ (32 - s), by rw [← Nat.pow_add, show s + (32 - s) = 32 from by omega]⟩
        rw [← hlo, ← hyy, hd, Nat.mod_mul_right_mod]; simp
      have hcl : c + lo < 4294967296 := by
        obtain ⟨d, hd⟩ : ∃ d, (4294967296 : Nat) = 2 ^ s * d := ⟨2 ^ (32 - s), by rw [← Nat.pow_add, show s + (32 - s) = 32 from by omega]⟩
        obtain ⟨m, rfl⟩ := Nat.dvd_of_mod_eq_zero hl2
        have h1 : m < d := by
          have : 2 ^ s * m < 2 ^ s * d := by rw [← hd]; omega
          exact Nat.lt_of_mul_lt_mul_left this
        have h2 : 2 ^ s * (m + 1) ≤ 2 ^ s * d := Nat.mul_le_mul_left _ h1
        rw [Nat.mul_add, Nat.mul_one, ← hd] at h2
        omega
      have hstep := left_step (N := N) (q := q) (lo := lo) (hi := hi') hs (by rw [HK.out]; exact hL) hx hc0 (by rw [hyy]; exact hlo) (by rw [hyy]; exact hhi) hcl
      rw [HK.out] at hstep
      have e1 : IntKind.u64.wrap ((x : Int) * 2 ^ s) = (y : Int) := by
        have : (x : Int) * 2 ^ s = ((x * 2 ^ s : Nat) : Int) := by simp
        rw [this, hyy]; exact IntWalk.u64_in _ ⟨by omega, by omega⟩
      have e2 : bits .and .u64 (y : Int) 4294967295 = (lo : Int) := by rw [and_low32 (by omega), hlo]
      have e3 : IntKind.u32.wrap (lo : Int) = (lo : Int) := IntWalk.u32_in _ ⟨by omega, by omega⟩
      have e4 : bits .or .u32 (c : Int) (lo : Int) = ((c + lo : Nat) : Int) := or_u32_low s hcs hl2 (by omega) (by omega)
      have e5 : IntKind.u32.wrap ((y : Int) / 4294967296) = (hi' : Int) := by
        have : (y : Int) / 4294967296 = (hi' : Int) := by omega
        rw [this]; exact IntWalk.u32_in _ ⟨by omega, by omega⟩
      have hh : hi' < 4294967296 := by omega
      have hA2 := Lib.hid ((HA.out.set (j := q + j) (v := c + lo) (by omega) hcl).set (j := q + j + 1) (v := hi') (by omega) hh)
      rw [hstep] at hA2
      have f1 := HA.out.frozen (q + j); have f2 := HA.out.frozen (q + j + 1)
      have i3 : (q : Int) + (j : Int) + 1 < ((q + wN N + 1 : Nat) : Int) := by omega
      have hB2 : Hid (Below w.heap.size w ((wr.setCell ⟨w.heap.size, q + j, none⟩ (.int .u32 ((c + lo : Nat) : Int))).setCell ⟨w.heap.size, q + j + 1, none⟩ (.int .u32 (hi' : Int)))) := Lib.hid ((HBel.out.setCell (by simp) _).setCell (by simp) _)
      have c3 : wr.cell? ⟨w.heap.size, q + j + 1, none⟩ = some (.int .u32 (dig L (q + j + 1) : Int)) := HA.out.cell (by omega)
      generalize dig L (q + j + 1) = c' at *
      generalize c + lo = cl at *
      clear hL hx hc0 hcs hp32 hy hyy hlo hhi hl2 hstep
      go_wp2
      go_roundw
      case rel => exact ⟨j + 1, by omega, by go_num, hA2.out, hB2.out⟩
      case measure => simp [intOf]; omega
    · obtain rfl : j = wN N := by omega
      rw [Nat.mod_eq_of_lt (lt_wN N)] at harr
      have HA := Lib.hid harr; have HBel := Lib.hid hbel; clear harr hbel
      go_wp2_with fail
      refine (norm_any _ _ _ (N * 2 ^ k) _ (by omega) HA.out.num).mono ?_
      rintro e w2 hP
      have HP := Lib.hid hP
      obtain ⟨A', cap', rfl, -, -, -⟩ := hP
      go_wp2
      go_ret
      exact NumP.below HP.out HBel.out

theorem left_any (A : Option Addr) (n cap N k : Nat) (w : World) (hn : n ≤ 140737488351232) (hl : k / 32 + wN N + 1 ≤ 35184372088832) (h : NumR w w.heap.size A n N) :
    Calls Try.prog 139 #[.slice A n cap, .int .i64 (k : Int)] w fun e w' => NumP w (N * 2 ^ k) e w' := by
  by_cases h0 : N = 0
  · subst h0; rw [Nat.zero_mul]; exact left_zero A n cap k w hn h
  · have := left_pos A n cap N (k / 32) (k % 32) w hn (Nat.mod_lt _ (by decide)) hl h0 h
    rwa [Nat.div_add_mod] at this
end Go.Proofs.Ytamaeggkpdgaiaa
