/- The walks of the reference's numbers: guess, sub. -/
import Derived.Test.YtamaeggkpdgaiaaNi
import Derived.Test.YtamaeggkpdgaiaaNj
import Derived.Deep.AppendLies
namespace Go.Proofs.Ytamaeggkpdgaiaa
open Go.RowKit

/-- A guess at a digit of a quotient, from below. -/
def guessN (R V n : Nat) : Nat := max 1 ((dig R n * 4294967296 + dig R (n - 1)) / (dig V (n - 1) + 1))
theorem guess_spec {R V n : Nat} (hn : 0 < n) (hV : V < 4294967296 ^ n) (hle : V ≤ R) : 1 ≤ guessN R V n ∧ guessN R V n * V ≤ R := by
  unfold guessN
  refine ⟨Nat.le_max_left _ _, ?_⟩
  obtain ⟨k, rfl⟩ : ∃ k, n = k + 1 := ⟨n - 1, by omega⟩
  rw [Nat.add_sub_cancel]
  have hx : ∀ x, x ≤ (dig R (k + 1) * 4294967296 + dig R k) / (dig V k + 1) → x * V ≤ R := by
    intro x hx
    have h1 : x * (dig V k + 1) ≤ dig R (k + 1) * 4294967296 + dig R k := (Nat.le_div_iff_mul_le (by omega)).1 hx
    have h2 : V < (dig V k + 1) * 4294967296 ^ k := by
      have := lt_succ hV
      have := Nat.mod_lt V (bbp k)
      rw [Nat.add_mul]; omega
    have h3 : (dig R (k + 1) * 4294967296 + dig R k) * 4294967296 ^ k ≤ R := by
      have e1 := mod_succ R k; have e2 := mod_succ R (k + 1)
      have := Nat.mod_le R (4294967296 ^ (k + 1 + 1))
      have e3 : (dig R (k + 1) * 4294967296 + dig R k) * 4294967296 ^ k = dig R (k + 1) * 4294967296 ^ (k + 1) + dig R k * 4294967296 ^ k := by
        rw [Nat.add_mul, Nat.pow_succ, Nat.mul_assoc, Nat.mul_comm 4294967296 (4294967296 ^ k)]
      omega
    calc x * V ≤ x * ((dig V k + 1) * 4294967296 ^ k) := Nat.mul_le_mul_left _ (Nat.le_of_lt h2)
      _ = x * (dig V k + 1) * 4294967296 ^ k := (Nat.mul_assoc _ _ _).symm
      _ ≤ (dig R (k + 1) * 4294967296 + dig R k) * 4294967296 ^ k := Nat.mul_le_mul_right _ h1
      _ ≤ R := h3
  rcases Nat.le_total 1 ((dig R (k + 1) * 4294967296 + dig R k) / (dig V k + 1)) with h | h
  · rw [Nat.max_eq_right h]; exact hx _ (Nat.le_refl _)
  · rw [Nat.max_eq_left h, Nat.one_mul]; exact hle

set_option maxRecDepth 100000 in
set_option maxHeartbeats 1000000 in
theorem guess_any (A1 A2 : Option Addr) (n cp1 cp2 R V : Nat) (w : World) (hn : n + 2 ≤ 140737488351232) (h : NumR w w.heap.size A1 (n + 2) R) (h2 : NumR w w.heap.size A2 (n + 1) V) :
    Calls Try.prog 156 #[.slice A1 (n + 2) cp1, .slice A2 (n + 1) cp2] w fun e w' => e = .returned (.int .u64 (guessN R V (n + 1) : Int)) ∧ Below w.heap.size w w' := by
  obtain ⟨b1, off1, rfl, hb1, hc1⟩ := h.cells (by omega) (Below.refl _ _)
  obtain ⟨b2, off2, rfl, hb2, hc2⟩ := h2.cells (by omega) (Below.refl _ _)
  have c1 := hc1 (n + 1) (by omega); have c2 := hc1 n (by omega); have c3 := hc2 n (by omega)
  have d1 := dig_lt R (n + 1); have d2 := dig_lt R n; have d3 := dig_lt V n
  have hg : Hid (guessN R V (n + 1) = max 1 ((dig R (n + 1) * 4294967296 + dig R n) / (dig V n + 1))) := Lib.hid rfl
  clear hc1 hc2 h h2
  generalize guessN R V (n + 1) = g at *
  generalize dig R (n + 1) = x at *
  generalize dig R n = y at *
  generalize dig V n = z at *
  have e1 := or_shift32 d1 d2
  have i1 : (n : Int) + 1 < (n : Int) + 2 := by omega
  have i2 : (n : Int) < (n : Int) + 2 := by omega
  have i3 : (n : Int) < (n : Int) + 1 := by omega
  have i4 : IntKind.i64.wrap ((n : Int) + 1 - 1) = (n : Int) := by rw [show (n : Int) + 1 - 1 = n from by omega]; exact IntWalk.i64_in _ ⟨by omega, by omega⟩
  have i5 : 0 ≤ (n : Int) + 1 := by omega
  have i6 : ((n : Int) + 1).toNat = n + 1 := by omega
  have e2 : IntKind.u64.wrap ((x : Int) * 4294967296) = (x : Int) * 4294967296 := IntWalk.u64_in _ ⟨by omega, by omega⟩
  have e3 : IntKind.u64.wrap ((z : Int) + 1) = (z : Int) + 1 := IntWalk.u64_in _ ⟨by omega, by omega⟩
  have hzb : x * 4294967296 + y < 18446744073709551616 := by omega
  generalize x * 4294967296 + y = t at *
  have e4 : (t : Int) / ((z : Int) + 1) = ((t / (z + 1) : Nat) : Int) := by simp
  have hqb : t / (z + 1) < 18446744073709551616 := Nat.lt_of_le_of_lt (Nat.div_le_self _ _) hzb
  generalize t / (z + 1) = q at *
  have e5 : IntKind.u64.wrap (q : Int) = (q : Int) := IntWalk.u64_in _ ⟨by omega, by omega⟩
  have gx : IntKind.u64.wrap (x : Int) = (x : Int) := IntWalk.u64_in _ ⟨by omega, by omega⟩
  have gy : IntKind.u64.wrap (y : Int) = (y : Int) := IntWalk.u64_in _ ⟨by omega, by omega⟩
  have gz : IntKind.u64.wrap (z : Int) = (z : Int) := IntWalk.u64_in _ ⟨by omega, by omega⟩
  have gn : IntKind.i64.wrap (n : Int) = (n : Int) := IntWalk.i64_in _ ⟨by omega, by omega⟩
  have n0 : ((z : Int) + 1 == 0) = false := by simp; omega
  have n1 : (z : Int) + 1 ≠ 0 := by omega
  clear hzb hqb
  go_enter Try.func156, Try.ntmps156
  go_wp2
  refine region_quiet (by kernel_rfl) (by kernel_rfl) ?_
  repeat (refine wpQuiet_step (fun K hK => ?_); go_simp; first | (refine hK _ ?_; clear hK K))
  refine wpQuiet_nil ?_
  intro w1 hw1
  have HW := Lib.hid hw1; clear hw1
  cases hq : ((q : Int) == 0)
  case true =>
    have HQ := Lib.hid hq
    go_wp2
    go_ret
    exact ⟨ret_int (by have := HQ.out; simp at this; rw [hg.out, this]; rfl), HW.out⟩
  case false =>
    have HQ := Lib.hid hq
    go_wp2
    go_ret
    exact ⟨ret_int (by have := HQ.out; simp at this; rw [hg.out, Nat.max_eq_right (by omega)]), HW.out⟩

/-- What has been taken off, word by word. -/
theorem sub_step {L R V x c bo bo' i b d t v : Nat} (h : L + x * (V % 4294967296 ^ i) = R + (c + bo) * 4294967296 ^ i) (hb : dig V i = b) (hd : dig L i = d) (ht : t = c + b * x) (hv : v + (t % 4294967296 + bo) = d + bo' * 4294967296) :
    setD L i v + x * (V % 4294967296 ^ (i + 1)) = R + (t / 4294967296 + bo') * 4294967296 ^ (i + 1) := by
  have h1 := setD_add L i v
  rw [hd] at h1
  have e1 : (t / 4294967296 + bo') * 4294967296 ^ (i + 1) = (4294967296 * (t / 4294967296) + bo' * 4294967296) * 4294967296 ^ i := by
    rw [Nat.pow_succ]
    have : 4294967296 * (t / 4294967296) + bo' * 4294967296 = (t / 4294967296 + bo') * 4294967296 := by omega
    rw [this]; ac_rfl
  have e2 : x * (V % 4294967296 ^ (i + 1)) = x * (V % 4294967296 ^ i) + b * x * 4294967296 ^ i := by
    rw [mod_succ, hb, Nat.mul_add]
    congr 1; ac_rfl
  rw [e1, e2]
  have e3 : (v + (t % 4294967296 + bo)) * 4294967296 ^ i = (d + bo' * 4294967296) * 4294967296 ^ i := by rw [hv]
  have e4 : (c + b * x) * 4294967296 ^ i = (t % 4294967296 + 4294967296 * (t / 4294967296)) * 4294967296 ^ i := by rw [Nat.mod_add_div, ht]
  simp only [Nat.add_mul] at *
  omega
theorem sub_end {L R V x c bo n : Nat} (h : L + x * (V % 4294967296 ^ n) = R + (c + bo) * 4294967296 ^ n) (hV : V < 4294967296 ^ n) (hL : L < 4294967296 ^ n) (hle : x * V ≤ R) : L = R - x * V := by
  rw [Nat.mod_eq_of_lt hV] at h
  rcases Nat.eq_zero_or_pos (c + bo) with h0 | h0
  · rw [h0] at h; omega
  · have : 1 * 4294967296 ^ n ≤ (c + bo) * 4294967296 ^ n := Nat.mul_le_mul_right _ h0
    omega

theorem ArrN.other {w : World} {E g n L : Nat} (h : ArrN w E g n L) {g' j : Nat} (v : Value) (hg : g ≠ g') : ArrN (w.setCell ⟨g', j, none⟩ v) E g n L := by
  refine ⟨h.1, h.2.1, ?_⟩
  rcases h.2.2 with ⟨hv, _⟩ | ⟨g1, cp, cur, hv, h1, hg', h2⟩
  · simp at hv
  · have e := hv
    simp only [Value.slice.injEq, Option.some.injEq, Addr.mk.injEq, and_true, true_and] at e
    obtain ⟨rfl, rfl⟩ := e
    exact .inr ⟨g, n, cur, rfl, h1, by rw [Below.heap_setCell _ _ _ _ (by omega)]; exact hg', h2⟩
theorem ArrN.grown {w w' : World} {E g n L : Nat} (h : ArrN w E g n L) {row : Option Nat} (hw : w.grownBy w' row) (hg : row ≠ some g) : ArrN w' E g n L := by
  have hlt := h.lt
  refine ⟨h.1, h.2.1, ?_⟩
  rcases h.2.2 with ⟨hv, _⟩ | ⟨g1, cp, cur, hv, h1, hg', h2⟩
  · simp at hv
  · have e := hv
    simp only [Value.slice.injEq, Option.some.injEq, Addr.mk.injEq, and_true, true_and] at e
    obtain ⟨rfl, rfl⟩ := e
    exact .inr ⟨g, n, cur, rfl, h1, by rw [hw.block g hlt (fun e => hg e.symm)]; exact hg', h2⟩
theorem ArrN.stored {w : World} {E g n L : Nat} (h : ArrN w E g n L) (j : Nat) (v : Value) : w.grownBy (w.setCell ⟨g, j, none⟩ v) (some g) := (h.2.stored j v).2

theorem NumR.at {w : World} {B n N : Nat} {A : Option Addr} (h : NumR w B A n N) (hn : 0 < n) : ∃ b off, A = some ⟨b, off, none⟩ ∧ b < B ∧ ∀ i < n, w.cell? ⟨b, off + i, none⟩ = some (.int .u32 (dig N i : Int)) := by
  obtain ⟨b, off, e, hB, hc⟩ := h.2 hn
  exact ⟨b, off, e, hB, fun i hi => by simpa using hc i hi 0 (by omega)⟩
/-- The number lies in a block of its own, apart from g. -/
theorem NumR.apart {w w' : World} {B n N g : Nat} {A : Option Addr} (h : NumR w B A n N) (hg : w.grownBy w' (some g)) (hB : B ≤ w.heap.size) (hne : ∀ a, A = some a → a.block ≠ g) : NumR w' B A n N := by
  refine ⟨h.1, fun hn => ?_⟩
  obtain ⟨b, off, e, hb, hc⟩ := h.2 hn
  exact ⟨b, off, e, hb, fun i hi j hj => by rw [hg.cell_far ⟨b, _, none⟩ (by simp; omega) (by have := hne _ e; simpa using this)]; exact hc i hi j hj⟩

set_option maxRecDepth 100000 in
set_option maxHeartbeats 2000000 in
theorem sub_any (A : Option Addr) (E g n m cp R V x : Nat) (w : World) (hE : E = 22) (hn : n ≤ 35184372088832) (hx : x < 4294967296) (hm : m ≤ n) (hle : x * V ≤ R) (h : ArrN w E g n R) (h2 : NumR w w.heap.size A m V) (hne : ∀ a, A = some a → a.block ≠ g) :
    Calls Try.prog 157 #[.slice (some ⟨g, 0, none⟩) n n, .slice A m cp, .int .u64 (x : Int)] w fun e w' => e = .returned (.tuple #[]) ∧ ArrN w' E g n (R - x * V) ∧ w.grownBy w' (some g) := by
  subst hE
  have HA := Lib.hid h; have HV := Lib.hid h2; have HNe := Lib.hid hne; have HLe := Lib.hid hle; clear h h2 hne hle
  go_enter Try.func157, Try.ntmps157
  go_wp2
  go_loopw [6, 7, 8] (fun cv bv iv wr => ∃ i c bo L : Nat, i ≤ n ∧ c < 4294967296 ∧ bo ≤ 1 ∧ iv = .int .i64 (i : Int) ∧ cv = .int .u64 (c : Int) ∧ bv = .int .u64 (bo : Int) ∧ L + x * (V % 4294967296 ^ i) = R + (c + bo) * 4294967296 ^ i ∧ ArrN wr 22 g n L ∧ w.grownBy wr (some g)) (fun _ _ iv _ => n - (intOf iv).toNat)
  case atStart => exact ⟨0, 0, 0, R, Nat.zero_le _, by omega, by omega, rfl, rfl, rfl, by simp [Nat.mod_one], HA.out, ⟨rfl, rfl, rfl, Nat.le_refl _, fun _ _ _ => rfl⟩⟩
  case round =>
    obtain ⟨i, c, bo, L, hin, hc, hbo, rfl, rfl, rfl, hsum, harr, hgr⟩ := hrel
    have HS := Lib.hid hsum; have HAr := Lib.hid harr; have HG := Lib.hid hgr; clear hsum harr hgr
    by_cases hlt : i < n
    · by_cases him : i < m
      · obtain ⟨b2, off2, eA, hb2, hcv⟩ := (HV.out.apart HG.out (Nat.le_refl _) HNe.out).at (by omega)
        subst eA
        have c1 := hcv i him
        have hm1 : (i : Int) < (m : Int) := by omega
        have hdb := dig_lt V i
        generalize hbb : dig V i = b at *
        obtain ⟨hbx, -⟩ := carry_lt hc hc hdb hx
        have htt : c + b * x = c + dig V i * x := by rw [hbb]
        have e5 : IntKind.u64.wrap ((b : Int) * (x : Int)) = ((b * x : Nat) : Int) := by
          rw [show (b : Int) * (x : Int) = ((b * x : Nat) : Int) from by simp]; exact IntWalk.u64_in _ ⟨by omega, by omega⟩
        generalize b * x = bx at *
        have e6 : IntKind.u64.wrap ((c : Int) + (bx : Int)) = ((c + bx : Nat) : Int) := by
          rw [show ((c + bx : Nat) : Int) = (c : Int) + (bx : Int) from by omega]; exact IntWalk.u64_in _ ⟨by omega, by omega⟩
        have htb : c + bx < 18446744073709551616 := by omega
        generalize c + bx = t at *
        clear hcv hbb hbx
        have hhb : t / 4294967296 < 4294967296 := by omega
        have e1 : bits .and .u64 (t : Int) 4294967295 = ((t % 4294967296 : Nat) : Int) := and_low32 (by omega)
        have e2 : (t : Int) / 4294967296 = ((t / 4294967296 : Nat) : Int) := by omega
        have hdl := dig_lt L i
        generalize hd : dig L i = d at *
        have hlo : t % 4294967296 < 4294967296 := Nat.mod_lt _ (by decide)
        have i1 : (i : Int) < (n : Int) := by omega
        by_cases hbr : d < t % 4294967296 + bo
        · have hst := Lib.hid (sub_step (bo' := 1) (v := d + 4294967296 - (t % 4294967296 + bo)) HS.out rfl hd htt (by omega))
          have e3 : (d : Int) + 4294967296 - (((t % 4294967296 : Nat) : Int) + (bo : Int)) = ((d + 4294967296 - (t % 4294967296 + bo) : Nat) : Int) := by omega
          have hvb : d + 4294967296 - (t % 4294967296 + bo) < 4294967296 := by omega
          have hb1 : (d : Int) < ((t % 4294967296 : Nat) : Int) + (bo : Int) := by omega
          generalize hv : d + 4294967296 - (t % 4294967296 + bo) = v at *
          generalize t % 4294967296 = lo at *
          generalize t / 4294967296 = hi' at *
          have e4 : IntKind.u32.wrap (v : Int) = (v : Int) := IntWalk.u32_in _ ⟨by omega, by omega⟩
          clear htt hbr htb
          have c5 := HAr.out.cell (i := i) hlt
          have f1 := HAr.out.frozen i
          have HB3 : Hid (w.grownBy (wr.setCell ⟨g, i, none⟩ (.int .u32 (v : Int))) (some g)) := Lib.hid (HG.out.trans (HAr.out.stored i _))
          have HSe := Lib.hid (HAr.out.set (j := i) (v := v) hlt hvb)
          rw [hd] at c5
          clear hd hv hvb
          go_wp2
          go_roundw
          case rel => exact ⟨i + 1, hi', 1, setD L i v, by omega, hhb, by omega, by go_num, by first | go_num | (rw [e2]; go_num) | (simp; done), by first | rfl | go_num | (simp; done), hst.out, HSe.out, HB3.out⟩
          case measure => simp [intOf]; omega
        · have hst := Lib.hid (sub_step (bo' := 0) (v := d - (t % 4294967296 + bo)) HS.out rfl hd htt (by omega))
          have e3 : (d : Int) - (((t % 4294967296 : Nat) : Int) + (bo : Int)) = ((d - (t % 4294967296 + bo) : Nat) : Int) := by omega
          have hvb : d - (t % 4294967296 + bo) < 4294967296 := by omega
          have hb1 : ¬ (d : Int) < ((t % 4294967296 : Nat) : Int) + (bo : Int) := by omega
          generalize hv : d - (t % 4294967296 + bo) = v at *
          generalize t % 4294967296 = lo at *
          generalize t / 4294967296 = hi' at *
          have e4 : IntKind.u32.wrap (v : Int) = (v : Int) := IntWalk.u32_in _ ⟨by omega, by omega⟩
          clear htt hbr htb
          have c5 := HAr.out.cell (i := i) hlt
          have f1 := HAr.out.frozen i
          have HB3 : Hid (w.grownBy (wr.setCell ⟨g, i, none⟩ (.int .u32 (v : Int))) (some g)) := Lib.hid (HG.out.trans (HAr.out.stored i _))
          have HSe := Lib.hid (HAr.out.set (j := i) (v := v) hlt hvb)
          rw [hd] at c5
          clear hd hv hvb
          go_wp2
          go_roundw
          case rel => exact ⟨i + 1, hi', 0, setD L i v, by omega, hhb, by omega, by go_num, by first | go_num | (rw [e2]; go_num) | (simp; done), by first | rfl | go_num | (simp; done), hst.out, HSe.out, HB3.out⟩
          case measure => simp [intOf]; omega
      · have hb0 : dig V i = 0 := dig_high HV.out.1 (by omega)
        have htt : c = c + dig V i * x := by rw [hb0]; simp
        have hm1 : ¬ (i : Int) < (m : Int) := by omega
        clear hb0
        generalize ht : c = t at *
        clear ht
        have hhb : t / 4294967296 < 4294967296 := by omega
        have e1 : bits .and .u64 (t : Int) 4294967295 = ((t % 4294967296 : Nat) : Int) := and_low32 (by omega)
        have e2 : (t : Int) / 4294967296 = ((t / 4294967296 : Nat) : Int) := by omega
        have hdl := dig_lt L i
        generalize hd : dig L i = d at *
        have hlo : t % 4294967296 < 4294967296 := Nat.mod_lt _ (by decide)
        have i1 : (i : Int) < (n : Int) := by omega
        by_cases hbr : d < t % 4294967296 + bo
        · have hst := Lib.hid (sub_step (bo' := 1) (v := d + 4294967296 - (t % 4294967296 + bo)) HS.out rfl hd htt (by omega))
          have e3 : (d : Int) + 4294967296 - (((t % 4294967296 : Nat) : Int) + (bo : Int)) = ((d + 4294967296 - (t % 4294967296 + bo) : Nat) : Int) := by omega
          have hvb : d + 4294967296 - (t % 4294967296 + bo) < 4294967296 := by omega
          have hb1 : (d : Int) < ((t % 4294967296 : Nat) : Int) + (bo : Int) := by omega
          generalize hv : d + 4294967296 - (t % 4294967296 + bo) = v at *
          generalize t % 4294967296 = lo at *
          generalize t / 4294967296 = hi' at *
          have e4 : IntKind.u32.wrap (v : Int) = (v : Int) := IntWalk.u32_in _ ⟨by omega, by omega⟩
          clear htt hbr 
          have c5 := HAr.out.cell (i := i) hlt
          have f1 := HAr.out.frozen i
          have HB3 : Hid (w.grownBy (wr.setCell ⟨g, i, none⟩ (.int .u32 (v : Int))) (some g)) := Lib.hid (HG.out.trans (HAr.out.stored i _))
          have HSe := Lib.hid (HAr.out.set (j := i) (v := v) hlt hvb)
          rw [hd] at c5
          clear hd hv hvb
          go_wp2
          go_roundw
          case rel => exact ⟨i + 1, hi', 1, setD L i v, by omega, hhb, by omega, by go_num, by first | go_num | (rw [e2]; go_num) | (simp; done), by first | rfl | go_num | (simp; done), hst.out, HSe.out, HB3.out⟩
          case measure => simp [intOf]; omega
        · have hst := Lib.hid (sub_step (bo' := 0) (v := d - (t % 4294967296 + bo)) HS.out rfl hd htt (by omega))
          have e3 : (d : Int) - (((t % 4294967296 : Nat) : Int) + (bo : Int)) = ((d - (t % 4294967296 + bo) : Nat) : Int) := by omega
          have hvb : d - (t % 4294967296 + bo) < 4294967296 := by omega
          have hb1 : ¬ (d : Int) < ((t % 4294967296 : Nat) : Int) + (bo : Int) := by omega
          generalize hv : d - (t % 4294967296 + bo) = v at *
          generalize t % 4294967296 = lo at *
          generalize t / 4294967296 = hi' at *
          have e4 : IntKind.u32.wrap (v : Int) = (v : Int) := IntWalk.u32_in _ ⟨by omega, by omega⟩
          clear htt hbr 
          have c5 := HAr.out.cell (i := i) hlt
          have f1 := HAr.out.frozen i
          have HB3 : Hid (w.grownBy (wr.setCell ⟨g, i, none⟩ (.int .u32 (v : Int))) (some g)) := Lib.hid (HG.out.trans (HAr.out.stored i _))
          have HSe := Lib.hid (HAr.out.set (j := i) (v := v) hlt hvb)
          rw [hd] at c5
          clear hd hv hvb
          go_wp2
          go_roundw
          case rel => exact ⟨i + 1, hi', 0, setD L i v, by omega, hhb, by omega, by go_num, by first | go_num | (rw [e2]; go_num) | (simp; done), by first | rfl | go_num | (simp; done), hst.out, HSe.out, HB3.out⟩
          case measure => simp [intOf]; omega
    · obtain rfl : i = n := by omega
      have hfin := Lib.hid (sub_end HS.out (Nat.lt_of_lt_of_le HV.out.1 (Nat.pow_le_pow_right (by decide) hm)) HAr.out.1 HLe.out)
      go_wp2
      go_end0
      exact ⟨rfl, by rw [← hfin.out]; exact HAr.out, HG.out⟩

end Go.Proofs.Ytamaeggkpdgaiaa
