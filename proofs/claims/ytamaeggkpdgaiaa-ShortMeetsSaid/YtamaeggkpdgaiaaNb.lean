/- The walks of the reference's numbers of words: words, Norm, Cmp. -/
import Derived.Test.YtamaeggkpdgaiaaProg
import Derived.Test.YtamaeggkpdgaiaaNa
import Derived.Test.YtamaeggkpdgaiaaWa
import Derived.OwnWalk
import Derived.Lib.Hide
namespace Go.Proofs.Ytamaeggkpdgaiaa
open Go.RowKit

set_option maxRecDepth 100000 in
set_option maxHeartbeats 400000 in
theorem words_any (A : Option Addr) (n cap N : Nat) (w : World) (hn : n ≤ 140737488351232) (h : NumR w w.heap.size A n N) :
    Calls Try.prog 155 #[.slice A n cap] w fun e w' => e = .returned (.int .i64 (wN N : Int)) ∧ w = w' := by
  have HN := Lib.hid h; clear h
  go_enter Try.func155, Try.ntmps155
  go_wp2
  go_loop [3] (fun v => ∃ k : Nat, k ≤ n ∧ N < 4294967296 ^ k ∧ v = .int .i64 k) (fun v => (intOf v).toNat)
  case atStart => exact ⟨n, Nat.le_refl _, HN.out.1, rfl⟩
  case round =>
    obtain ⟨k, hk, hN, rfl⟩ := hrel
    have HK := Lib.hid hN; clear hN
    rcases Nat.eq_zero_or_pos k with rfl | hp
    · go_wp2
      go_ret
      exact ⟨ret_int (by have := wN_le.2 HK.out; omega), rfl⟩
    · obtain ⟨j, rfl⟩ : ∃ j, k = j + 1 := ⟨k - 1, by omega⟩
      obtain ⟨b, off, rfl, hbB, hc⟩ := HN.out.cells (by omega) (Below.refl _ _)
      have c1 := hc j (by omega)
      have hjn : (j : Int) < (n : Int) := by omega
      clear hc
      cases hd : ((dig N j : Int) == 0)
      case false =>
        have HD := Lib.hid hd
        go_wp2
        go_ret
        exact ⟨ret_int (by rw [wN_of_top HK.out (.inr (by have := HD.out; simp at this; simpa using this))]; rfl), rfl⟩
      case true =>
        have HD := Lib.hid hd
        go_wp2
        go_round
        case rel => exact ⟨j, by omega, lt_of_top HK.out (by have := HD.out; simp at this; omega), by go_num⟩
        case measure => simp [intOf]

/-- -1, 0, 1: less, the same, more. -/
def cmpN (N M : Nat) : Int := if N < M then -1 else if M < N then 1 else 0
theorem cmpN_lt {N M : Nat} (h : N < M) : cmpN N M = -1 := by unfold cmpN; rw [if_pos h]
theorem cmpN_gt {N M : Nat} (h : M < N) : cmpN N M = 1 := by unfold cmpN; rw [if_neg (by omega), if_pos h]
theorem cmpN_eq (N : Nat) : cmpN N N = 0 := by unfold cmpN; simp
theorem div_ends {N M k : Nat} (hN : N < 4294967296 ^ k) (hM : M < 4294967296 ^ k) : N / 4294967296 ^ k = M / 4294967296 ^ k := by rw [Nat.div_eq_of_lt hN, Nat.div_eq_of_lt hM]

set_option maxRecDepth 100000 in
set_option maxHeartbeats 1000000 in
theorem cmp_any (A1 A2 : Option Addr) (n cp1 m cp2 N M : Nat) (w : World) (hn : n ≤ 140737488351232) (hm : m ≤ 140737488351232) (h : NumR w w.heap.size A1 n N) (h2 : NumR w w.heap.size A2 m M) :
    Calls Try.prog 138 #[.slice A1 n cp1, .slice A2 m cp2] w fun e w' => e = .returned (.int .i64 (cmpN N M)) ∧ Below w.heap.size w w' := by
  have HN := Lib.hid h; have HM := Lib.hid h2; clear h h2
  have B0 := wN_le.2 HN.out.1; have B1 := wN_le.2 HM.out.1
  rcases Nat.lt_trichotomy (wN N) (wN M) with hlt | heq | hgt
  · go_enter Try.func138, Try.ntmps138
    go_wp2_with (go_at_call 155; first | ((with_reducible refine (words_any A1 n cp1 N _ hn HN.out).mono ?_); rintro e w' ⟨rfl, rfl⟩) | ((with_reducible refine (words_any A2 m cp2 M _ hm HM.out).mono ?_); rintro e w' ⟨rfl, rfl⟩))
    go_ret
    exact ⟨ret_int (cmpN_lt (lt_of_words hlt)).symm, Below.refl _ _⟩
  rotate_left
  · go_enter Try.func138, Try.ntmps138
    go_wp2_with (go_at_call 155; first | ((with_reducible refine (words_any A1 n cp1 N _ hn HN.out).mono ?_); rintro e w' ⟨rfl, rfl⟩) | ((with_reducible refine (words_any A2 m cp2 M _ hm HM.out).mono ?_); rintro e w' ⟨rfl, rfl⟩))
    go_ret
    exact ⟨ret_int (cmpN_gt (lt_of_words hgt)).symm, Below.refl _ _⟩
  · have E1 : decide (wN N < wN M) = false := by simp; omega
    have E2 : decide (wN M < wN N) = false := by simp; omega
    have hstart : Hid (N / 4294967296 ^ wN N = M / 4294967296 ^ wN N) := Lib.hid (div_ends (lt_wN N) (heq ▸ lt_wN M))
    have B2 : wN N ≤ m := by omega
    have HE := Lib.hid heq; clear heq
    go_enter Try.func138, Try.ntmps138
    go_wp2_with (go_at_call 155; first | ((with_reducible refine (words_any A1 n cp1 N _ hn HN.out).mono ?_); rintro e w' ⟨rfl, rfl⟩) | ((with_reducible refine (words_any A2 m cp2 M _ hm HM.out).mono ?_); rintro e w' ⟨rfl, rfl⟩))
    go_loopw [7] (fun v wr => ∃ k : Nat, k ≤ wN N ∧ v = .int .i64 ((k : Int) - 1) ∧ Hid (N / 4294967296 ^ k = M / 4294967296 ^ k) ∧ Below w.heap.size w wr) (fun v _ => (intOf v + 1).toNat)
    case atStart => exact ⟨wN N, Nat.le_refl _, rfl, hstart, Below.refl _ _⟩
    case round =>
      obtain ⟨k, hk, rfl, hd, hbel⟩ := hrel
      have HBel := Lib.hid hbel; clear hbel
      rcases Nat.eq_zero_or_pos k with rfl | hp
      · go_wp2
        go_ret
        have : N = M := by have := hd.out; simpa using this
        subst this
        exact ⟨ret_int (cmpN_eq N).symm, HBel.out⟩
      · obtain ⟨j, rfl⟩ : ∃ j, k = j + 1 := ⟨k - 1, by omega⟩
        obtain ⟨b1, off1, rfl, hbB1, hc1⟩ := HN.out.cells (by omega) HBel.out
        obtain ⟨b2, off2, rfl, hbB2, hc2⟩ := HM.out.cells (by omega) HBel.out
        have c1 := hc1 j (by omega)
        have c2 := hc2 j (by omega)
        have s1 : b1 < wr.heap.size := by have := HBel.out.size; omega
        have s2 : b2 < wr.heap.size := by have := HBel.out.size; omega
        have i1 : (j : Int) < (n : Int) := by omega
        have i2 : (j : Int) < (m : Int) := by omega
        clear hc1 hc2
        go_wp2
        refine region_quiet (by kernel_rfl) (by kernel_rfl) ?_
        repeat (refine wpQuiet_step (fun K hK => ?_); go_simp; first | (refine hK _ ?_; clear hK K))
        refine wpQuiet_nil ?_
        intro w1 hb1
        have HB1 := Lib.hid (HBel.out.trans (hb1.mono HBel.out.size))
        have d1 : w1.cell? ⟨b1, off1 + j, none⟩ = some (.int .u32 (dig N j : Int)) := by rw [hb1.cell (p := ⟨b1, _, none⟩) (by have := HBel.out.size; simp; omega)]; exact c1
        have d2 : w1.cell? ⟨b2, off2 + j, none⟩ = some (.int .u32 (dig M j : Int)) := by rw [hb1.cell (p := ⟨b2, _, none⟩) (by have := HBel.out.size; simp; omega)]; exact c2
        clear hb1
        have hs1 : b1 < w1.heap.size := by have := HB1.out.size; omega
        have hs2 : b2 < w1.heap.size := by have := HB1.out.size; omega
        clear c1 c2
        go_wp2
        · go_ret
          have hlt : dig N j < dig M j := by assumption
          exact ⟨ret_int (cmpN_lt (lt_of_part hd.out (by omega))).symm, HB1.out⟩
        · have hge : ¬ dig N j < dig M j := by assumption
          have HGE := Lib.hid hge
          refine region_quiet (by kernel_rfl) (by kernel_rfl) ?_
          repeat (refine wpQuiet_step (fun K hK => ?_); go_simp; first | (refine hK _ ?_; clear hK K))
          refine wpQuiet_nil ?_
          intro w2 hb2
          have HB2 := Lib.hid (HB1.out.trans (hb2.mono HB1.out.size))
          clear hb2 d1 d2
          go_wp2
          · go_ret
            have hlt : dig M j < dig N j := by assumption
            exact ⟨ret_int (cmpN_gt (lt_of_part hd.out.symm (by omega))).symm, HB2.out⟩
          · have hge2 : ¬ dig M j < dig N j := by assumption
            have he : dig N j = dig M j := by have := HGE.out; omega
            have HE := Lib.hid (div_step hd.out he); clear he
            go_roundw
            case rel => exact ⟨j, by omega, by go_num, HE, HB2.out⟩
            case measure => simp [intOf]

end Go.Proofs.Ytamaeggkpdgaiaa
