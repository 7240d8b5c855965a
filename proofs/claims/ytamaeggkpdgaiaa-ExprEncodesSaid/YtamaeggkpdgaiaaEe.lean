/- The walk of expr.Encode. -/
import Derived.Test.YtamaeggkpdgaiaaEd
import Derived.Deep.RegionHeld3
namespace Go.Proofs.Ytamaeggkpdgaiaa
open Go.RowKit

theorem step_app8 {ops : Array Oper} {o : Oper} {a : Act} {K : Act → World → Prop} {Q : Exit → Act → World → Prop} {E : Prop} {w : World} (hgd : o.guard = none) (s x : Operand) (ho : o.op = .call { callee := .builtin .append, args := #[s, x], argTypes := #[81, 81] })
    (base base2 : Nat) (A : Option Addr) (n cap : Nat) (l : List Int) (hs : a.eval s = .slice A n cap) (hown : OwnB w base A n cap l)
    (B : Option Addr) (m c : Nat) (news : List Int) (hx : a.eval x = .slice B m c) (hsrc : OwnB w base2 B m c news) (hm : 0 < m)
    (hlen : n + m ≤ 140737488355328) (hbase : base ≤ w.heap.size)
    (h : ∀ A' cap' w', OwnB w' base A' (n + m) cap' (l ++ news) → w.grownBy w' (Value.slice A n cap).ownBlock → Below base w w' → K (a.put o.dst (.slice A' (n + m) cap')) w') :
    if Region.wanted o (yielded ops a.tmps) = true then Oper.wp Try.prog o a w K Q else E := by
  have hw : Region.wanted o (yielded ops a.tmps) = true := by simp [Region.wanted, hgd]
  rw [if_pos hw]
  obtain ⟨i0, hi, hz0, hz1, hz2⟩ := info_parts infoB
  obtain ⟨g, rfl, hg1, hg2, hc⟩ := hsrc.at' hm
  refine wp_append_own w s x 81 ho base 5 i0 _ 1 1 Try.underlying81 hi hz0 hz1 hz2 rfl (by decide) _ n _ hs hown ⟨g, 0, none⟩ m c (bv news) hx (by rw [bv_length, hsrc.len]; omega) hc (bv_one _) (by unfold maxLen; omega) (by omega) hbase ?_
  intro v' w' h1 h2 h3
  obtain ⟨A', cap', rfl⟩ := own_form h1
  have h4 : Below base w w' := (Below.refl base w).grown h2 hbase (fun k hk => own_block hown hk)
  refine h A' cap' w' ?_ h2 h4
  unfold OwnB
  rw [bv_append]
  exact h1

/-- What Encode answers. -/
def EncP (vars : Int) (n m : Nat) (L : Nat → Nat × Nat) (C : Nat → Nat → Int) (e : Ending) (w w' : World) : Prop :=
  ∃ l c, ChkP vars n m L C l c ∧ Below w.heap.size w w' ∧ ((c ≠ 0 ∧ e = .returned (.tuple #[.slice none 0 0, .int .i64 c])) ∨
    (c = 0 ∧ ∃ len A cap, 0 < len ∧ len ≤ 20000 ∧ e = .returned (.tuple #[.slice A len cap, .int .i64 0]) ∧ OwnB w' w.heap.size A len cap (encP vars n m L C)))

theorem ok_parts {vars : Int} {n m : Nat} {L : Nat → Nat × Nat} {C : Nat → Nat → Int} {l : Int} (h : ChkP vars n m L C l 0) :
    0 ≤ vars ∧ vars ≤ 32 ∧ n ≤ 256 ∧ (∀ i < n, validD (L i).1 (L i).2 = true) ∧ 0 < m ∧ m ≤ 1024 ∧ (∀ j < m, lineC vars n C j = 0) ∧ ∀ i < m, 0 ≤ opsN (C i 0) := by
  cases h with
  | line i e _ _ _ _ _ _ _ _ _ hne => exact absurd rfl hne
  | ok a1 a2 a3 a4 a5 a6 a7 =>
    refine ⟨a1, a2, a3, a4, a5, a6, a7, fun i hi => ?_⟩
    have := a7 i hi
    unfold lineC lineE at this
    by_cases hlt : opsN (C i 0) < 0
    · rw [decide_eq_true hlt] at this; simp at this
    · omega

set_option maxRecDepth 100000 in
set_option maxHeartbeats 4000000 in
theorem encode_any (vars : Int) (A1 A2 : Option Addr) (n cp1 m cp2 : Nat) (L : Nat → Nat × Nat) (C : Nat → Nat → Int) (w : World) (hL : ∀ i < n, W64 (L i).1 ∧ W64 (L i).2) (hn : n * 16 ≤ 140737488351232) (hm : m * 40 ≤ 140737488351232)
    (hr : RowN w w.heap.size 2 A1 n (fF L)) (hr2 : RowN w w.heap.size 5 A2 m (fI C)) :
    Calls Try.prog 36 #[.agg #[.int .i64 vars, .slice A1 n cp1, .slice A2 m cp2]] w fun e w' => EncP vars n m L C e w w' := by
  have HR := Lib.hid hr; have HR2 := Lib.hid hr2; have HL := Lib.hid hL
  have HCK : Hid (∀ w', Below w.heap.size w w' → Calls Try.prog 26 #[.agg #[.int .i64 vars, .slice A1 n cp1, .slice A2 m cp2]] w' fun e w'' => (∃ l c, ChkP vars n m L C l c ∧ e = .returned (.tuple #[.int .i64 l, .int .i64 c])) ∧ Below w'.heap.size w' w'') :=
    Lib.hid (fun w' hb => check_any vars A1 A2 n cp1 m cp2 L C w' hL hn hm ((hr.below hb).more hb.size) ((hr2.below hb).more hb.size))
  clear hr hr2 hL
  have KB : Hid (∀ w', Below (w.heap.size + 1) (w.alloc (.cells #[.int .i64 vars, .slice A1 n cp1, .slice A2 m cp2] 67)) w' → (Below w.heap.size w w' ∧ w'.cell? ⟨w.heap.size, 0, none⟩ = some (.int .i64 vars) ∧ w'.cell? ⟨w.heap.size, 1, none⟩ = some (.slice A1 n cp1) ∧ w'.cell? ⟨w.heap.size, 2, none⟩ = some (.slice A2 m cp2) ∧ w.heap.size < w'.heap.size)) := Lib.hid (fun w' h =>
    ⟨((Below.refl _ _).alloc (Nat.le_refl _) _).trans (h.mono (by omega)), cells_box w w' [.int .i64 vars, .slice A1 n cp1, .slice A2 m cp2] h 0 _ rfl, cells_box w w' [.int .i64 vars, .slice A1 n cp1, .slice A2 m cp2] h 1 _ rfl, cells_box w w' [.int .i64 vars, .slice A1 n cp1, .slice A2 m cp2] h 2 _ rfl, by have := h.size; simp at this; omega⟩)
  have HBB : Hid (Below w.heap.size w (w.alloc (.cells #[.int .i64 vars, .slice A1 n cp1, .slice A2 m cp2] 67))) := Lib.hid ((Below.refl _ _).alloc (Nat.le_refl _) _)
  go_enter Try.func36, Try.ntmps36
  go_wp2_with fail
  obtain ⟨WB, hWB⟩ : ∃ V : World, V = w.alloc (.cells #[.int .i64 vars, .slice A1 n cp1, .slice A2 m cp2] 67) := ⟨_, rfl⟩
  have hSB : WB.heap.size = w.heap.size + 1 := by rw [hWB]; simp
  rw [← hWB] at KB HBB ⊢
  clear hWB
  have HSB := Lib.hid hSB
  refine (HCK.out _ HBB.out).mono ?_
  rintro e0 w0 ⟨⟨l, c, hck, rfl⟩, hb0⟩
  have HZ0 : Hid (Below (w.heap.size + 1) WB w0) := Lib.hid (hb0.mono (by omega))
  have HK := Lib.hid hck
  clear hb0 hck HCK HBB hSB
  cases hc0 : (c != 0)
  case true =>
    go_wp2
    go_ret2
    exact ⟨l, c, HK.out, (KB.out w0 HZ0.out).1, Or.inl ⟨by simpa using hc0, rfl⟩⟩
  case false =>
    have hcz : c = 0 := by simpa using hc0
    subst hcz
    obtain ⟨p1, p2, p3, p4, p5, p6, p7, p8⟩ := ok_parts HK.out
    have HV := Lib.hid p4; have HO := Lib.hid p8
    clear p4 p7 p8 hc0
    obtain ⟨-, k0, k1, k2, l0⟩ := KB.out w0 HZ0.out
    have hs0 : w.heap.size + 1 ≤ w0.heap.size := by have := HZ0.out.size; have := HSB.out; omega
    go_upto_region 4 with (fail)
    go_cut [6] (fun v wc => ∃ A cap, v = .slice A 6 cap ∧ Hid (OwnB wc (w.heap.size + 1) A 6 cap (encH vars n ++ encK L 0) ∧ Below (w.heap.size + 1) WB wc))
    case first =>
      have KS : ∀ w', Below w0.heap.size w0 w' → (Below w0.heap.size w0 w' ∧ w'.cell? ⟨w.heap.size, 0, none⟩ = some (.int .i64 vars) ∧ w'.cell? ⟨w.heap.size, 1, none⟩ = some (.slice A1 n cp1)) := fun w' h => ⟨h, (KB.out w' (HZ0.out.trans (h.mono hs0))).2.1, (KB.out w' (HZ0.out.trans (h.mono hs0))).2.2.1⟩
      have kk := KS w0.drew (Below.refl _ _).drew
      have ownA : Hid (OwnB (w0.drew.alloc (.cells #[.int .u8 86, .int .u8 71, .int .u8 1, .int .u8 (vars % 256)] 5)) w0.heap.size (some ⟨w0.heap.size, 0, none⟩) 4 4 [86, 71, 1, vars % 256]) := Lib.hid (own_lit w0.drew w0.heap.size [86, 71, 1, vars % 256] (Nat.le_refl _) (by simp))
      go_region_held3 (fun w' => (Below w0.heap.size w0 w' ∧ w'.cell? ⟨w.heap.size, 0, none⟩ = some (.int .i64 vars) ∧ w'.cell? ⟨w.heap.size, 1, none⟩ = some (.slice A1 n cp1)))
        ((first | with_reducible assumption | (refine KS _ ?_; ((repeat (first | with_reducible assumption | with_reducible exact Below.refl _ _ | (with_reducible refine Below.alloc ?_ (by first | exact Nat.le_refl _ | omega | (simp; done) | (simp; omega)) _) | with_reducible refine Below.drew ?_ | (with_reducible refine Below.trans ?_ (Below.mono (by with_reducible assumption) (by first | omega | (simp; done) | (simp; omega)))))); done))))
        (first
          | (go_at_call 74; (with_reducible refine (two_any _ _).mono ?_); rintro e1 w1 ⟨B1, c1, rfl, own1, hb1⟩; have hs1 := hb1.size; simp at hs1)
          | ((refine step_app8 (by rfl) _ _ (by rfl) w0.heap.size _ (some ⟨w0.heap.size, 0, none⟩) 4 4 [86, 71, 1, vars % 256] (by rfl) (ownA.out.below hb1) B1 2 c1 _ (by rfl) own1 (by omega) (by omega) (by simp at *; omega) ?_); intro A' cap' w2 hown2 _ hbel2)
          | ((refine step_app8 (by rfl) _ _ (by rfl) w0.heap.size _ (some ⟨w1.heap.size, 0, none⟩) 4 4 [86, 71, 1, vars % 256] (by rfl) (own_lit w1 w0.heap.size [86, 71, 1, vars % 256] (by simp at *; omega) (by simp)) B1 2 c1 _ (by rfl) (own1.alloc _) (by omega) (by omega) (by simp at *; omega) ?_); intro A' cap' w2 hown2 _ hbel2))
      all_goals
        go_wp2
        go_meet
        refine ⟨A', cap', rfl, Lib.hid ⟨by rw [show encK L 0 = [] from rfl, List.append_nil]; exact hown2.mono hs0, HZ0.out.trans (Below.mono (B := w0.heap.size) (Below.trans ?_ hbel2) hs0)⟩⟩
        repeat (first | with_reducible assumption | with_reducible exact Below.refl _ _ | (with_reducible refine Below.alloc ?_ (by first | exact Nat.le_refl _ | omega | (simp; done) | (simp; omega)) _) | with_reducible refine Below.drew ?_ | (with_reducible refine Below.trans ?_ (Below.mono (by with_reducible assumption) (by first | omega | (simp; done) | (simp; omega)))))
    case rest =>
      obtain ⟨A', cap', rfl, HI⟩ := hcut
      obtain ⟨-, k0, k1, k2, l0⟩ := KB.out wc HI.out.2
      go_wp2
      go_loopw [6, 34] (fun lv iv wr => ∃ (k len : Nat) (A : Option Addr) (cap : Nat), k ≤ n ∧ len ≤ 6 + 16 * k ∧ lv = .slice A len cap ∧ iv = .int .i64 (k : Int) ∧ Hid (OwnB wr (w.heap.size + 1) A len cap (encH vars n ++ encK L k) ∧ Below (w.heap.size + 1) WB wr)) (fun _ iv _ => n - (intOf iv).toNat)
      case atStart => exact ⟨0, 6, A', cap', by omega, by omega, rfl, rfl, HI⟩
      case round =>
        obtain ⟨k, len, A, cap, hk, hlen, rfl, rfl, H⟩ := hrel
        clear k0 k1 k2 l0
        obtain ⟨-, k0, k1, k2, l0⟩ := KB.out wr H.out.2
        have hsw : w.heap.size + 1 ≤ wr.heap.size := by have := H.out.2.size; have := HSB.out; omega
        by_cases hkn : k < n
        · have hkn' : (k : Int) < (n : Int) := by omega
          obtain ⟨b, off, rfl, hbB, hc⟩ := HR.out (by omega)
          have hB := (KB.out wr H.out.2).1
          have r0 := (hB.cell (p := ⟨b, off + k * 2 + 0, none⟩) hbB).trans (hc k hkn 0 (by omega))
          have r1 := (hB.cell (p := ⟨b, off + k * 2 + 1, none⟩) hbB).trans (hc k hkn 1 (by omega))
          simp only [fF, if_true, Nat.add_zero, Nat.one_ne_zero, if_false] at r0 r1
          clear hc hB
          obtain ⟨hx, hy⟩ := HL.out k hkn
          have hv := HV.out k hkn
          have hbw : b < wr.heap.size := by omega
          have PT := Lib.hid (fun w => putI_any _ _ hx hy hv w)
          clear hx hy hv
          go_wp2_with fail
          refine (PT.out _).mono ?_
          rintro e3 w3 ⟨B3, c3, rfl, own3, hb3⟩
          have H3 := Lib.hid own3
          have HO3 := Lib.hid ((H.out.1.alloc _).below hb3)
          have HZ3 : Hid (Below (w.heap.size + 1) WB w3) := Lib.hid ((H.out.2.alloc hsw _).trans (hb3.mono (by simp; omega)))
          have hs3 : w.heap.size + 1 ≤ w3.heap.size := by have := HZ3.out.size; have := HSB.out; omega
          clear own3 hb3 k0 k1 k2 r0 r1 l0 hbw
          go_wp2_with (at_builtin; (refine app8 rfl _ _ rfl (w.heap.size + 1) _ A len cap (encH vars n ++ encK L k) rfl HO3.out B3 16 c3 _ rfl H3.out (by omega) (by omega) hs3 ?_); intro A'' cap'' w4 hown4 _ hbel4)
          have H4 : Hid (OwnB w4 (w.heap.size + 1) A'' (len + 16) cap'' (encH vars n ++ encK L (k + 1)) ∧ Below (w.heap.size + 1) WB w4) := Lib.hid ⟨by rw [encK_succ, ← List.append_assoc]; exact hown4, HZ3.out.trans hbel4⟩
          clear hown4 hbel4
          go_wp2
          go_roundw
          case rel => exact ⟨k + 1, len + 16, A'', cap'', by omega, by omega, rfl, by go_num, H4⟩
          case measure => simp [intOf]; omega
        · have : k = n := by omega
          subst this
          go_wp2_with fail
          refine (two_any (m : Int) _).mono ?_
          rintro e3 w3 ⟨B3, c3, rfl, own3, hb3⟩
          have H3 := Lib.hid own3
          have HO3 := Lib.hid (H.out.1.below hb3)
          have HZ3 : Hid (Below (w.heap.size + 1) WB w3) := Lib.hid (H.out.2.trans (hb3.mono hsw))
          have hs3 : w.heap.size + 1 ≤ w3.heap.size := by have := HZ3.out.size; have := HSB.out; omega
          clear own3 hb3 k0 k1 k2 l0
          go_wp2_with (at_builtin; (refine app8 rfl _ _ rfl (w.heap.size + 1) _ A len cap (encH vars k ++ encK L k) rfl HO3.out B3 2 c3 _ rfl H3.out (by omega) (by omega) hs3 ?_); intro A'' cap'' w4 hown4 _ hbel4; obtain ⟨-, k0, k1, k2, l0⟩ := KB.out w4 (HZ3.out.trans hbel4))
          obtain ⟨P, hP⟩ : ∃ P, P = (encH vars k ++ encK L k) ++ two (m : Int) := ⟨_, rfl⟩
          rw [← hP] at hown4
          have H4 : Hid (OwnB w4 (w.heap.size + 1) A'' (len + 2) cap'' (P ++ encC C 0) ∧ Below (w.heap.size + 1) WB w4) := Lib.hid ⟨by rw [show encC C 0 = [] from rfl, List.append_nil]; exact hown4, HZ3.out.trans hbel4⟩
          have HP : Hid (encP vars k m L C = P ++ encC C m) := Lib.hid (by rw [hP]; rfl)
          have hl4 : len + 2 ≤ 5000 := by omega
          have hl5 : 0 < len + 2 := by omega
          clear hown4 hbel4 hP H3 HO3 HZ3 hs3
          generalize len + 2 = len0 at *
          go_wp2
          go_loopw [6, 52] (fun lv iv wr => ∃ (i len : Nat) (A : Option Addr) (cap : Nat), i ≤ m ∧ len ≤ 5000 + 9 * i ∧ 0 < len ∧ lv = .slice A len cap ∧ iv = .int .i64 (i : Int) ∧ Hid (OwnB wr (w.heap.size + 1) A len cap (P ++ encC C i) ∧ Below (w.heap.size + 1) WB wr)) (fun _ iv _ => m - (intOf iv).toNat)
          case atStart => exact ⟨0, len0, A'', cap'', by omega, by omega, hl5, rfl, rfl, H4⟩
          case round =>
            obtain ⟨i, len2, A2', cap2, hi, hlen2, hpos, rfl, rfl, H2⟩ := hrel
            clear k0 k1 k2 l0
            obtain ⟨hB, k0, k1, k2, l0⟩ := KB.out wr H2.out.2
            have hsw2 : w.heap.size + 1 ≤ wr.heap.size := by have := H2.out.2.size; have := HSB.out; omega
            by_cases him : i < m
            · have him' : (i : Int) < (m : Int) := by omega
              obtain ⟨b, off, rfl, hbB, hc⟩ := HR2.out (by omega)
              have r0 := (hB.cell (p := ⟨b, off + i * 5 + 0, none⟩) hbB).trans (hc i him 0 (by omega))
              have r1 := (hB.cell (p := ⟨b, off + i * 5 + 1, none⟩) hbB).trans (hc i him 1 (by omega))
              have r2 := (hB.cell (p := ⟨b, off + i * 5 + 2, none⟩) hbB).trans (hc i him 2 (by omega))
              have r3 := (hB.cell (p := ⟨b, off + i * 5 + 3, none⟩) hbB).trans (hc i him 3 (by omega))
              have r4 := (hB.cell (p := ⟨b, off + i * 5 + 4, none⟩) hbB).trans (hc i him 4 (by omega))
              simp only [fI, Nat.add_zero] at r0 r1 r2 r3 r4
              have hop := HO.out i him
              have hop3 := opsN_le (C i 0)
              have hbw : b < wr.heap.size := by omega
              clear hc hB
              obtain ⟨V1, hV1⟩ : ∃ V : World, V = wr.alloc (.cells #[.int .i64 (C i 0), .int .i64 (C i 1), .int .i64 (C i 2), .int .i64 (C i 3), .int .i64 (C i 4)] 117) := ⟨_, rfl⟩
              have hs1 : V1.heap.size = wr.heap.size + 1 := by rw [hV1]; simp
              have ownS : OwnB (V1.alloc (.cells #[.int .u8 (C i 0 % 256)] 5)) (wr.heap.size + 1) (some ⟨wr.heap.size + 1, 0, none⟩) 1 1 [C i 0 % 256] := by
                have := own_lit V1 (wr.heap.size + 1) [C i 0 % 256] (by omega) (by simp)
                rwa [hs1] at this
              have ownD : OwnB (V1.alloc (.cells #[.int .u8 (C i 0 % 256)] 5)) (w.heap.size + 1) A2' len2 cap2 (P ++ encC C i) := by rw [hV1]; exact (H2.out.1.alloc _).alloc _
              have hC0 : (V1.alloc (.cells #[.int .u8 (C i 0 % 256)] 5)).heap[wr.heap.size]? = some (.cells (lineV C i).toArray 117 (0, 0)) := (heap_alloc_old V1 _ (by omega)).trans (by rw [hV1]; exact heap_alloc_new wr _)
              have hZ5 : Below (w.heap.size + 1) WB (V1.alloc (.cells #[.int .u8 (C i 0 % 256)] 5)) := by rw [hV1]; exact (H2.out.2.alloc (by omega) _).alloc (by simp; omega) _
              rw [hV1] at ownS ownD hC0 hZ5
              have OS := Lib.hid ownS; have OD := Lib.hid ownD; have HC0 := Lib.hid hC0; have HZ5 := Lib.hid hZ5
              clear ownS ownD hC0 hZ5 hs1 hV1 V1
              go_wp2_with (at_builtin; (refine app8 rfl _ _ rfl (w.heap.size + 1) _ A2' len2 cap2 (P ++ encC C i) rfl OD.out (some ⟨wr.heap.size + 1, 0, none⟩) 1 1 [C i 0 % 256] rfl OS.out (by omega) (by omega) (by simp; omega) ?_); intro A5 cap5 w5 hown5 hgr5 hbel5; have hh5 := keep_other HC0.out (by decide) OD.out hgr5; have hg5 := heap_lt hh5; have q0 := cell_heap hh5 0 _ rfl; have q1 := cell_heap hh5 1 _ rfl; have q2 := cell_heap hh5 2 _ rfl; have q3 := cell_heap hh5 3 _ rfl; clear hh5)
              have H5 : Hid (w5.heap[wr.heap.size]? = some (.cells (lineV C i).toArray 117 (0, 0)) ∧ OwnB w5 (w.heap.size + 1) A5 (len2 + 1) cap5 (((P ++ encC C i) ++ [C i 0 % 256]) ++ encO C i 0) ∧ Below (w.heap.size + 1) WB w5) := Lib.hid ⟨keep_other HC0.out (by decide) OD.out hgr5, by rw [show encO C i 0 = [] from rfl, List.append_nil]; exact hown5, HZ5.out.trans hbel5⟩
              clear hown5 hgr5 hbel5 OS OD HC0 HZ5 r0 r1 r2 r3 r4 k0 k1 k2 hbw
              obtain ⟨Q, hQ⟩ : ∃ Q, Q = (P ++ encC C i) ++ [C i 0 % 256] := ⟨_, rfl⟩
              rw [← hQ] at H5
              have HQ : Hid (P ++ encC C (i + 1) = Q ++ encO C i (opsN (C i 0)).toNat ++ encN C i) := Lib.hid (by rw [hQ, encC_succ]; unfold encL; simp only [List.append_assoc])
              clear hQ
              have hO : opsN (C i 0) = ((opsN (C i 0)).toNat : Int) := by omega
              have hO3 : (opsN (C i 0)).toNat ≤ 3 := by omega
              have HOP := Lib.hid hO
              clear hop hop3 hO
              generalize (opsN (C i 0)).toNat = O at *
              generalize hg : wr.heap.size = g at *
              have hO0 : (0 : Int) ≤ (O : Int) := by omega
              have hO3' : (O : Int) ≤ 3 := by omega
              refine (operands_any _ _).mono ?_
              rintro e6 w6 ⟨rfl, rfl⟩
              rw [HOP.out]
              go_wp2
              obtain ⟨ga, hga⟩ : ∃ ga, ga = w5.heap.size := ⟨_, rfl⟩
              have hsw5 : w.heap.size + 1 ≤ w5.heap.size := by have := H5.out.2.2.size; have := HSB.out; omega
              have H5' : Hid ((w5.alloc (.cells #[.int .i64 (C i 1), .int .i64 (C i 2), .int .i64 (C i 3)] 145)).heap[g]? = some (.cells (lineV C i).toArray 117 (0, 0)) ∧ (w5.alloc (.cells #[.int .i64 (C i 1), .int .i64 (C i 2), .int .i64 (C i 3)] 145)).heap[ga]? = some (.cells [.int .i64 (C i 1), .int .i64 (C i 2), .int .i64 (C i 3)].toArray 145 (0, 0)) ∧ OwnB (w5.alloc (.cells #[.int .i64 (C i 1), .int .i64 (C i 2), .int .i64 (C i 3)] 145)) (w.heap.size + 1) A5 (len2 + 1) cap5 (Q ++ encO C i 0) ∧ Below (w.heap.size + 1) WB (w5.alloc (.cells #[.int .i64 (C i 1), .int .i64 (C i 2), .int .i64 (C i 3)] 145))) :=
                Lib.hid ⟨(heap_alloc_old w5 _ hg5).trans H5.out.1, by rw [hga]; exact heap_alloc_new w5 _, H5.out.2.1.alloc _, H5.out.2.2.alloc hsw5 _⟩
              rw [← hga]
              clear q0 q1 q2 q3 hg5 hga hsw5
              go_loopw [6, 74] (fun lv jv wq => ∃ (j len : Nat) (A : Option Addr) (cap : Nat), j ≤ O ∧ len ≤ len2 + 1 + 2 * j ∧ 0 < len ∧ lv = .slice A len cap ∧ jv = .int .i64 (j : Int) ∧ Hid (wq.heap[g]? = some (.cells (lineV C i).toArray 117 (0, 0)) ∧ wq.heap[ga]? = some (.cells [.int .i64 (C i 1), .int .i64 (C i 2), .int .i64 (C i 3)].toArray 145 (0, 0)) ∧ OwnB wq (w.heap.size + 1) A len cap (Q ++ encO C i j) ∧ Below (w.heap.size + 1) WB wq)) (fun _ jv _ => O - (intOf jv).toNat)
              case atStart => exact ⟨0, len2 + 1, A5, cap5, by omega, by omega, by omega, rfl, rfl, H5'⟩
              case round =>
                obtain ⟨j, len3, A3, cap3, hj, hlen3, hpos3, rfl, rfl, H6⟩ := hrel
                have hg2 := heap_lt H6.out.1
                have hg3 := heap_lt H6.out.2.1
                have hsz : w.heap.size + 1 ≤ wr.heap.size := by have := H6.out.2.2.2.size; have := HSB.out; omega
                by_cases hjO : j < O
                · have hjO' : (j : Int) < (O : Int) := by omega
                  have qj : wr.cell? ⟨ga, j, none⟩ = some (.int .i64 (C i (j + 1))) := by
                    have : j = 0 ∨ j = 1 ∨ j = 2 := by omega
                    rcases this with rfl | rfl | rfl
                    · exact cell_heap H6.out.2.1 0 _ rfl
                    · exact cell_heap H6.out.2.1 1 _ rfl
                    · exact cell_heap H6.out.2.1 2 _ rfl
                  go_wp2_with fail
                  refine (two_any _ _).mono ?_
                  rintro e8 w8 ⟨B8, c8, rfl, own8, hb8⟩
                  have HB8 := Lib.hid hb8
                  have H8 := Lib.hid own8
                  have hs8 : wr.heap.size ≤ w8.heap.size := HB8.out.size
                  have HO8 := Lib.hid (H6.out.2.2.1.below HB8.out)
                  have HC8 : Hid (w8.heap[g]? = some (.cells (lineV C i).toArray 117 (0, 0)) ∧ w8.heap[ga]? = some (.cells [.int .i64 (C i 1), .int .i64 (C i 2), .int .i64 (C i 3)].toArray 145 (0, 0))) := Lib.hid ⟨by rw [HB8.out.block g hg2]; exact H6.out.1, by rw [HB8.out.block ga hg3]; exact H6.out.2.1⟩
                  clear own8 hb8 qj
                  go_wp2_with (at_builtin; (refine app8 rfl _ _ rfl (w.heap.size + 1) _ A3 len3 cap3 (Q ++ encO C i j) rfl HO8.out B8 2 c8 _ rfl H8.out (by omega) (by omega) (by omega) ?_); intro A9 cap9 w9 hown9 hgr9 hbel9)
                  have H9 : Hid (w9.heap[g]? = some (.cells (lineV C i).toArray 117 (0, 0)) ∧ w9.heap[ga]? = some (.cells [.int .i64 (C i 1), .int .i64 (C i 2), .int .i64 (C i 3)].toArray 145 (0, 0)) ∧ OwnB w9 (w.heap.size + 1) A9 (len3 + 2) cap9 (Q ++ encO C i (j + 1)) ∧ Below (w.heap.size + 1) WB w9) := Lib.hid ⟨keep_other HC8.out.1 (by decide) HO8.out hgr9, keep_other HC8.out.2 (by decide) HO8.out hgr9, by rw [encO_succ, ← List.append_assoc]; exact hown9, (H6.out.2.2.2.trans (HB8.out.mono hsz)).trans hbel9⟩
                  clear hown9 hgr9 hbel9
                  go_wp2
                  go_roundw
                  case rel => exact ⟨j + 1, len3 + 2, A9, cap9, by omega, by omega, by omega, rfl, by go_num, H9⟩
                  case measure => simp [intOf]; omega
                · have : j = O := by omega
                  subst this
                  have q0 := cell_heap H6.out.1 0 _ rfl
                  have q4 := cell_heap H6.out.1 4 _ rfl
                  cases ht : ((C i 0 == 1) || (C i 0 == 12))
                  case false =>
                    have hN : encN C i = [] := by unfold encN; rw [if_neg (by intro h; simp at ht; omega)]
                    have H9 : Hid (OwnB wr (w.heap.size + 1) A3 len3 cap3 (P ++ encC C (i + 1)) ∧ Below (w.heap.size + 1) WB wr) := Lib.hid ⟨by rw [HQ.out, hN, List.append_nil]; exact H6.out.2.2.1, H6.out.2.2.2⟩
                    have t1 : (C i 0 == 1) = false := by revert ht; cases (C i 0 == 1) <;> simp
                    have t2 : (C i 0 == 12) = false := by revert ht; cases (C i 0 == 12) <;> simp
                    clear ht hN
                    go_wp2
                    go_roundw
                    case rel => exact ⟨i + 1, len3, A3, cap3, by omega, by omega, hpos3, rfl, by go_num, H9⟩
                    case measure => simp [intOf]; omega
                  case true =>
                    have hN : encN C i = two (C i 4) := by unfold encN; rw [if_pos (by simp at ht; omega)]
                    have HN := Lib.hid hN
                    have tt : (C i 0 == 1) = true ∨ ((C i 0 == 1) = false ∧ (C i 0 == 12) = true) := by revert ht; cases (C i 0 == 1) <;> cases (C i 0 == 12) <;> simp
                    clear ht hN
                    rcases tt with t1 | ⟨t1, t2⟩
                    all_goals
                      go_wp2_with fail
                      refine (two_any _ _).mono ?_
                      rintro e8 w8 ⟨B8, c8, rfl, own8, hb8⟩
                      have HB8 := Lib.hid hb8
                      have H8 := Lib.hid own8
                      have hs8 : wr.heap.size ≤ w8.heap.size := HB8.out.size
                      have HO8 := Lib.hid (H6.out.2.2.1.below HB8.out)
                      clear own8 hb8 q0 q4
                      go_wp2_with (at_builtin; (refine app8 rfl _ _ rfl (w.heap.size + 1) _ A3 len3 cap3 (Q ++ encO C i j) rfl HO8.out B8 2 c8 _ rfl H8.out (by omega) (by omega) (by omega) ?_); intro A9 cap9 w9 hown9 hgr9 hbel9)
                      have H9 : Hid (OwnB w9 (w.heap.size + 1) A9 (len3 + 2) cap9 (P ++ encC C (i + 1)) ∧ Below (w.heap.size + 1) WB w9) := Lib.hid ⟨by rw [HQ.out, HN.out]; exact hown9, (H6.out.2.2.2.trans (HB8.out.mono hsz)).trans hbel9⟩
                      clear hown9 hgr9 hbel9
                      go_wp2
                      go_roundw
                      case rel => exact ⟨i + 1, len3 + 2, A9, cap9, by omega, by omega, by omega, rfl, by go_num, H9⟩
                      case measure => simp [intOf]; omega
            · have : i = m := by omega
              subst this
              go_wp2
              go_ret2
              exact ⟨l, 0, HK.out, (KB.out wr H2.out.2).1, Or.inr ⟨rfl, len2, A2', cap2, hpos, by omega, rfl, by rw [HP.out]; exact H2.out.1.mono (by omega)⟩⟩

end Go.Proofs.Ytamaeggkpdgaiaa
