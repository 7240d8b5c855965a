/- The walk of the reader's line. -/
import Derived.Test.YtamaeggkpdgaiaaEi
namespace Go.Proofs.Ytamaeggkpdgaiaa
open Go.RowKit

theorem encN_some {C : Nat → Nat → Int} {i : Nat} (h : C i 0 = 1 ∨ C i 0 = 12) : encN C i = two (C i 4) := by unfold encN; rw [if_pos h]
theorem encN_none {C : Nat → Nat → Int} {i : Nat} (h : ¬ (C i 0 = 1 ∨ C i 0 = 12)) : encN C i = [] := by unfold encN; rw [if_neg h]
theorem encL_length (C : Nat → Nat → Int) (i : Nat) : (encL C i).length = 1 + 2 * (opsN (C i 0)).toNat + (encN C i).length := by
  unfold encL; rw [List.length_append, List.length_append, encO_length]; simp; omega

/-- A line, as far as it is read. -/
def lineK (C : Nat → Nat → Int) (i k : Nat) : List Value := [.int .i64 (C i 0), .int .i64 (if 1 ≤ k then C i 1 else 0), .int .i64 (if 2 ≤ k then C i 2 else 0), .int .i64 (if 3 ≤ k then C i 3 else 0), .int .i64 0]

theorem heap_setAt {w : World} {g o : Nat} {cs : Array Value} {v : Value} {T : TypeId} (hh : w.heap[g]? = some (.cells cs T (0, 0))) : (w.setCell ⟨g, o, none⟩ v).heap[g]? = some (.cells (cs.setIfInBounds o v) T (0, 0)) := by
  unfold World.setCell
  simp only [Array.getElem?_modify, hh, if_true, Option.map_some]
  simp
theorem lineK_step (C : Nat → Nat → Int) (i k : Nat) (hk : k < 3) : (lineK C i k).toArray.setIfInBounds (k + 1) (.int .i64 (C i (k + 1))) = (lineK C i (k + 1)).toArray := by
  have : k = 0 ∨ k = 1 ∨ k = 2 := by omega
  rcases this with rfl | rfl | rfl <;> simp [lineK]
theorem lineK_same (C : Nat → Nat → Int) (i k : Nat) (hk : k < 3) (h : C i (k + 1) = 0) : lineK C i (k + 1) = lineK C i k := by
  have : k = 0 ∨ k = 1 ∨ k = 2 := by omega
  rcases this with rfl | rfl | rfl <;> simp [lineK] at * <;> simp [h]

set_option maxRecDepth 100000 in
set_option maxHeartbeats 3000000 in
theorem line_any (g b N cap p i n c1 c2 : Nat) (A1 A2 : Option Addr) (vars : Int) (C : Nat → Nat → Int) (l : List Int) (w : World) (hr : RdAt w g b N cap l p) (hb : ∀ i, 0 ≤ l.getD i 0 ∧ l.getD i 0 < 256)
    (hl : p + (encL C i).length ≤ N) (hh : HasL l p (encL C i)) (ok : LineOk vars n i C) (hv : 0 ≤ vars ∧ vars ≤ 32) (hn : n ≤ 256) (hi : i ≤ 1024) :
    Calls Try.prog 122 #[.pointer (some ⟨g, 0, none⟩), .agg #[.int .i64 vars, .slice A1 n c1, .slice A2 i c2]] w
      fun e w' => e = .returned (.agg #[.int .i64 (C i 0), .int .i64 (C i 1), .int .i64 (C i 2), .int .i64 (C i 3), .int .i64 (C i 4)]) ∧ w.grownBy w' (some g) ∧ RdAt w' g b N cap l (p + (encL C i).length) := by
  have hlen := encL_length C i
  have hO3 : (opsN (C i 0)).toNat ≤ 3 := by have := opsN_le (C i 0); omega
  have h1 : HasL l p [C i 0 % 256] := hh.left
  have h2 : HasL l (p + 1) (encO C i (opsN (C i 0)).toNat) := hh.right.left
  have h3 : HasL l (p + 1 + 2 * (opsN (C i 0)).toNat) (encN C i) := by have := hh.right.right; rwa [encO_length] at this
  have RN1 : Hid (∀ w', RdAt w' g b N cap l p → Calls Try.prog 120 #[.pointer (some ⟨g, 0, none⟩), .int .i64 1, .int .i64 1, .int .i64 21] w' fun e w'' => e = .returned (.int .i64 (C i 0)) ∧ w'.grownBy w'' (some g) ∧ RdAt w'' g b N cap l (p + 1)) := Lib.hid (fun w' h => by
    have e : sigV 1 (rawV l p 1) = C i 0 := by
      have := h1 0 _ rfl
      have := ok.op
      unfold sigV rawV; rw [if_pos rfl, if_neg (by omega)]
      rw [Nat.add_zero] at *; omega
    have := readN_any g b N cap p 1 l 1 21 w' h hb (by omega) (Or.inl rfl) (by rw [e]; exact ok.op.1) (by rw [e]; exact ok.op.2)
    rw [e] at this; exact this)
  have RNK : Hid (∀ k w', k < (opsN (C i 0)).toNat → RdAt w' g b N cap l (p + 1 + 2 * k) → Calls Try.prog 120 #[.pointer (some ⟨g, 0, none⟩), .int .i64 2, .int .i64 0, .int .i64 (vars + (i : Int) - 1)] w' fun e w'' => e = .returned (.int .i64 (C i (k + 1))) ∧ w'.grownBy w'' (some g) ∧ RdAt w'' g b N cap l (p + 1 + 2 * (k + 1))) := Lib.hid (fun k w' hk h => by
    have ha := (ok.args k (by omega)).1 hk
    have e : sigV 0 (rawV l (p + 1 + 2 * k) 2) = C i (k + 1) := by rw [(h2.encO k hk).two]; exact sig_pos _ ⟨by omega, by omega⟩
    have := readN_any g b N cap (p + 1 + 2 * k) 2 l 0 (vars + (i : Int) - 1) w' h hb (by omega) (Or.inr rfl) (by rw [e]; omega) (by rw [e]; omega)
    rw [e] at this; exact this)
  have RNC : Hid (C i 0 = 1 → ∀ w', RdAt w' g b N cap l (p + 1 + 2 * (opsN (C i 0)).toNat) → Calls Try.prog 120 #[.pointer (some ⟨g, 0, none⟩), .int .i64 2, .int .i64 0, .int .i64 ((n : Int) - 1)] w' fun e w'' => e = .returned (.int .i64 (C i 4)) ∧ w'.grownBy w'' (some g) ∧ RdAt w'' g b N cap l (p + (encL C i).length)) := Lib.hid (fun he w' h => by
    have ha := ok.const he
    rw [encN_some (Or.inl he)] at h3 hlen
    have hq : (two (C i 4)).length = 2 := rfl
    have e : sigV 0 (rawV l (p + 1 + 2 * (opsN (C i 0)).toNat) 2) = C i 4 := by rw [h3.two]; exact sig_pos _ ⟨by omega, by omega⟩
    have := readN_any g b N cap (p + 1 + 2 * (opsN (C i 0)).toNat) 2 l 0 ((n : Int) - 1) w' h hb (by omega) (Or.inr rfl) (by rw [e]; omega) (by rw [e]; omega)
    rw [e, show p + 1 + 2 * (opsN (C i 0)).toNat + 2 = p + (encL C i).length from by omega] at this; exact this)
  have RNP : Hid (C i 0 = 12 → ∀ w', RdAt w' g b N cap l (p + 1 + 2 * (opsN (C i 0)).toNat) → Calls Try.prog 120 #[.pointer (some ⟨g, 0, none⟩), .int .i64 2, .int .i64 (-1024), .int .i64 1024] w' fun e w'' => e = .returned (.int .i64 (C i 4)) ∧ w'.grownBy w'' (some g) ∧ RdAt w'' g b N cap l (p + (encL C i).length)) := Lib.hid (fun he w' h => by
    have ha := ok.pown he
    rw [encN_some (Or.inr he)] at h3 hlen
    have hq : (two (C i 4)).length = 2 := rfl
    have e : sigV (-1024) (rawV l (p + 1 + 2 * (opsN (C i 0)).toNat) 2) = C i 4 := by rw [h3.two]; exact sig_neg _ ⟨by omega, by omega⟩
    have := readN_any g b N cap (p + 1 + 2 * (opsN (C i 0)).toNat) 2 l (-1024) 1024 w' h hb (by omega) (Or.inr rfl) (by rw [e]; omega) (by rw [e]; omega)
    rw [e, show p + 1 + 2 * (opsN (C i 0)).toNat + 2 = p + (encL C i).length from by omega] at this; exact this)
  have HLN : Hid (¬ (C i 0 = 1 ∨ C i 0 = 12) → p + 1 + 2 * (opsN (C i 0)).toNat = p + (encL C i).length ∧ C i 4 = 0) := Lib.hid (fun h => by
    rw [encN_none h] at hlen
    refine ⟨by simp at hlen; omega, ok.rest (fun e => h (Or.inl e)) (fun e => h (Or.inr e))⟩)
  have HOA : Hid (∀ k, k < 3 → (opsN (C i 0)).toNat ≤ k → C i (k + 1) = 0) := Lib.hid (fun k hk => (ok.args k hk).2)
  have HR := Lib.hid hr
  have hg := heap_lt hr.heap
  have R0 := Lib.hid ((hr.alloc (.cells #[.int .i64 vars, .slice A1 n c1, .slice A2 i c2] 67)).alloc (.cells #[.int .i64 0, .int .i64 0, .int .i64 0, .int .i64 0, .int .i64 0] 117))
  have hOP : Hid (opsN (C i 0) = ((opsN (C i 0)).toNat : Int)) := Lib.hid (by have := ok.low; omega)
  clear h1 h2 h3 hlen ok hr hb hl hh
  generalize hT : p + (encL C i).length = T at *
  clear hT
  generalize (opsN (C i 0)).toNat = O at *
  go_enter Try.func122, Try.ntmps122
  go_wp2_with fail
  refine (RN1.out _ R0.out).mono ?_
  rintro e1 w1 ⟨rfl, hg1, hr1⟩
  have G1 : Hid (w.grownBy w1 (some g)) := Lib.hid (grown_trans (grown_trans (World.grownBy_alloc w _ _) (World.grownBy_alloc _ _ _)) hg1)
  have BX : Hid (w1.heap[w.heap.size]? = some (.cells #[.int .i64 vars, .slice A1 n c1, .slice A2 i c2] 67 (0, 0))) := Lib.hid (grown_heap hg1 ((heap_alloc_old _ _ (by simp)).trans (heap_alloc_new w _)) (by omega))
  have RS : Hid (w1.heap[w.heap.size + 1]? = some (.cells #[.int .i64 0, .int .i64 0, .int .i64 0, .int .i64 0, .int .i64 0] 117 (0, 0))) := Lib.hid (grown_heap hg1 (by have := heap_alloc_new (w.alloc (.cells #[.int .i64 vars, .slice A1 n c1, .slice A2 i c2] 67)) (.cells #[.int .i64 0, .int .i64 0, .int .i64 0, .int .i64 0, .int .i64 0] 117); simpa using this) (by omega))
  have HR1 := Lib.hid hr1
  clear hg1 hr1 R0
  have hw1 := heap_lt RS.out
  have hw0 := heap_lt BX.out
  have k0 := cell_heap (cs := [.int .i64 vars, .slice A1 n c1, .slice A2 i c2]) BX.out 0 _ rfl
  have k2 := cell_heap (cs := [.int .i64 vars, .slice A1 n c1, .slice A2 i c2]) BX.out 2 _ rfl
  have i1 : IntKind.i64.wrap (vars + (i : Int)) = vars + (i : Int) := IntWalk.i64_in _ ⟨by omega, by omega⟩
  have i2 : IntKind.i64.wrap (vars + (i : Int) - 1) = vars + (i : Int) - 1 := IntWalk.i64_in _ ⟨by omega, by omega⟩
  go_wp2_with fail
  obtain ⟨gc, hgc⟩ : ∃ gc, gc = w1.heap.size := ⟨_, rfl⟩
  have hgcw : w.heap.size + 1 < gc := by omega
  have hI : Hid (∃ W : World, W = (w1.alloc (.cells #[.int .i64 (C i 0), .int .i64 0, .int .i64 0, .int .i64 0, .int .i64 0] 117)).alloc (.cells #[.pointer (some ⟨gc, 1, none⟩), .pointer (some ⟨gc, 2, none⟩), .pointer (some ⟨gc, 3, none⟩)] 223) ∧
      (w.grownBy W (some g) ∧ RdAt W g b N cap l (p + 1 + 2 * min 0 O) ∧ W.heap[w.heap.size]? = some (.cells #[.int .i64 vars, .slice A1 n c1, .slice A2 i c2] 67 (0, 0)) ∧ W.heap[w.heap.size + 1]? = some (.cells #[.int .i64 0, .int .i64 0, .int .i64 0, .int .i64 0, .int .i64 0] 117 (0, 0)) ∧
        W.heap[gc]? = some (.cells (lineK C i 0).toArray 117 (0, 0)) ∧ W.heap[gc + 1]? = some (.cells #[.pointer (some ⟨gc, 1, none⟩), .pointer (some ⟨gc, 2, none⟩), .pointer (some ⟨gc, 3, none⟩)] 223 (0, 0)))) := Lib.hid (by
    refine ⟨_, rfl, grown_trans G1.out (grown_trans (World.grownBy_alloc _ _ _) (World.grownBy_alloc _ _ _)), ?_, ?_, ?_, ?_, ?_⟩
    · rw [Nat.zero_min]; exact (HR1.out.alloc _).alloc _
    · exact (heap_alloc_old _ _ (by simp; omega)).trans ((heap_alloc_old _ _ hw0).trans BX.out)
    · exact (heap_alloc_old _ _ (by simp; omega)).trans ((heap_alloc_old _ _ hw1).trans RS.out)
    · rw [hgc]; exact (heap_alloc_old _ _ (by simp)).trans (heap_alloc_new w1 _)
    · have := heap_alloc_new (w1.alloc (.cells #[.int .i64 (C i 0), .int .i64 0, .int .i64 0, .int .i64 0, .int .i64 0] 117)) (.cells #[.pointer (some ⟨gc, 1, none⟩), .pointer (some ⟨gc, 2, none⟩), .pointer (some ⟨gc, 3, none⟩)] 223)
      rw [hgc] at this ⊢
      simpa using this)
  obtain ⟨W, hW, hI2⟩ := hI.out
  have HI := Lib.hid hI2
  rw [← hgc, ← hW]
  clear hI hI2 hW k0 k2 BX RS G1 HR1 hw1 hw0 hgc
  go_loopw [24] (fun iv wr => ∃ k : Nat, k ≤ 3 ∧ iv = .int .i64 (k : Int) ∧ Hid (w.grownBy wr (some g) ∧ RdAt wr g b N cap l (p + 1 + 2 * min k O) ∧ wr.heap[w.heap.size]? = some (.cells #[.int .i64 vars, .slice A1 n c1, .slice A2 i c2] 67 (0, 0)) ∧ wr.heap[w.heap.size + 1]? = some (.cells #[.int .i64 0, .int .i64 0, .int .i64 0, .int .i64 0, .int .i64 0] 117 (0, 0)) ∧
        wr.heap[gc]? = some (.cells (lineK C i k).toArray 117 (0, 0)) ∧ wr.heap[gc + 1]? = some (.cells #[.pointer (some ⟨gc, 1, none⟩), .pointer (some ⟨gc, 2, none⟩), .pointer (some ⟨gc, 3, none⟩)] 223 (0, 0)))) (fun iv _ => 3 - (intOf iv).toNat)
  case atStart => exact ⟨0, by omega, rfl, HI⟩
  case round =>
    obtain ⟨k, hk, rfl, H⟩ := hrel
    have hz1 := heap_lt H.out.2.2.2.2.1
    have hz2 := heap_lt H.out.2.2.2.2.2
    have hz3 := heap_lt H.out.2.2.1
    have hgl := heap_lt H.out.2.1.heap
    have q0 := cell_heap H.out.2.2.2.2.1 0 _ rfl
    by_cases hk3 : k < 3
    · have hk3' : (k : Int) < 3 := by omega
      have qp : wr.cell? ⟨gc + 1, k, none⟩ = some (.pointer (some ⟨gc, k + 1, none⟩)) := by
        have : k = 0 ∨ k = 1 ∨ k = 2 := by omega
        rcases this with rfl | rfl | rfl
        · exact cell_heap (cs := [.pointer (some ⟨gc, 1, none⟩), .pointer (some ⟨gc, 2, none⟩), .pointer (some ⟨gc, 3, none⟩)]) H.out.2.2.2.2.2 0 _ rfl
        · exact cell_heap (cs := [.pointer (some ⟨gc, 1, none⟩), .pointer (some ⟨gc, 2, none⟩), .pointer (some ⟨gc, 3, none⟩)]) H.out.2.2.2.2.2 1 _ rfl
        · exact cell_heap (cs := [.pointer (some ⟨gc, 1, none⟩), .pointer (some ⟨gc, 2, none⟩), .pointer (some ⟨gc, 3, none⟩)]) H.out.2.2.2.2.2 2 _ rfl
      go_wp2_with fail
      refine (operands_any _ _).mono ?_
      rintro e2 w2 ⟨rfl, rfl⟩
      rw [hOP.out]
      by_cases hkO : k < O
      · have hkO' : (k : Int) < (O : Int) := by omega
        have hmin : min k O = k := by omega
        have HRk : Hid (RdAt wr g b N cap l (p + 1 + 2 * k)) := Lib.hid (by have := H.out.2.1; rwa [hmin] at this)
        go_wp2_with fail
        refine (RNK.out k _ hkO HRk.out).mono ?_
        rintro e3 w3 ⟨rfl, hg3, hr3⟩
        have hC3 := grown_heap hg3 H.out.2.2.2.2.1 (by omega)
        have hP3 := grown_heap hg3 H.out.2.2.2.2.2 (by omega)
        have hB3 := grown_heap hg3 H.out.2.2.1 (by omega)
        have hS3 := grown_heap hg3 H.out.2.2.2.1 (by omega)
        have cq : (w3.cell? ⟨gc, k + 1, none⟩).isSome = true := by
          have : k = 0 ∨ k = 1 ∨ k = 2 := by omega
          rcases this with rfl | rfl | rfl
          · rw [cell_heap hC3 1 _ rfl]; rfl
          · rw [cell_heap hC3 2 _ rfl]; rfl
          · rw [cell_heap hC3 3 _ rfl]; rfl
        obtain ⟨u, cu⟩ := Option.isSome_iff_exists.1 cq
        have fu := frozen_heap hC3 (k + 1)
        have H9 : Hid (w.grownBy (w3.setCell ⟨gc, k + 1, none⟩ (.int .i64 (C i (k + 1)))) (some g) ∧ RdAt (w3.setCell ⟨gc, k + 1, none⟩ (.int .i64 (C i (k + 1)))) g b N cap l (p + 1 + 2 * min (k + 1) O) ∧ (w3.setCell ⟨gc, k + 1, none⟩ (.int .i64 (C i (k + 1)))).heap[w.heap.size]? = some (.cells #[.int .i64 vars, .slice A1 n c1, .slice A2 i c2] 67 (0, 0)) ∧ (w3.setCell ⟨gc, k + 1, none⟩ (.int .i64 (C i (k + 1)))).heap[w.heap.size + 1]? = some (.cells #[.int .i64 0, .int .i64 0, .int .i64 0, .int .i64 0, .int .i64 0] 117 (0, 0)) ∧
            (w3.setCell ⟨gc, k + 1, none⟩ (.int .i64 (C i (k + 1)))).heap[gc]? = some (.cells (lineK C i (k + 1)).toArray 117 (0, 0)) ∧ (w3.setCell ⟨gc, k + 1, none⟩ (.int .i64 (C i (k + 1)))).heap[gc + 1]? = some (.cells #[.pointer (some ⟨gc, 1, none⟩), .pointer (some ⟨gc, 2, none⟩), .pointer (some ⟨gc, 3, none⟩)] 223 (0, 0))) := Lib.hid (by
          have hbl := HR.out.lt
          refine ⟨grown_setNew (grown_trans H.out.1 hg3) (by omega) _ _, ?_, (heap_set_other (by omega)).trans hB3, (heap_set_other (by omega)).trans hS3, ?_, (heap_set_other (by omega)).trans hP3⟩
          · rw [show min (k + 1) O = k + 1 from by omega]; exact hr3.set (by omega) (by omega) _ _
          · rw [← lineK_step C i k hk3]; exact heap_setAt hC3)
        clear hg3 hr3 hC3 hP3 hB3 hS3 cq qp
        go_wp2
        go_roundw
        case rel => exact ⟨k + 1, by omega, by go_num, H9⟩
        case measure => simp [intOf]; omega
      · have hkO' : ¬ (k : Int) < (O : Int) := by omega
        have H9 : Hid (w.grownBy wr (some g) ∧ RdAt wr g b N cap l (p + 1 + 2 * min (k + 1) O) ∧ wr.heap[w.heap.size]? = some (.cells #[.int .i64 vars, .slice A1 n c1, .slice A2 i c2] 67 (0, 0)) ∧ wr.heap[w.heap.size + 1]? = some (.cells #[.int .i64 0, .int .i64 0, .int .i64 0, .int .i64 0, .int .i64 0] 117 (0, 0)) ∧
            wr.heap[gc]? = some (.cells (lineK C i (k + 1)).toArray 117 (0, 0)) ∧ wr.heap[gc + 1]? = some (.cells #[.pointer (some ⟨gc, 1, none⟩), .pointer (some ⟨gc, 2, none⟩), .pointer (some ⟨gc, 3, none⟩)] 223 (0, 0))) := Lib.hid (by
          refine ⟨H.out.1, ?_, H.out.2.2.1, H.out.2.2.2.1, ?_, H.out.2.2.2.2.2⟩
          · have := H.out.2.1; rwa [show min k O = min (k + 1) O from by omega] at this
          · rw [lineK_same C i k hk3 (by have := HOA.out k hk3; exact this (by omega))]; exact H.out.2.2.2.2.1)
        clear qp
        go_wp2
        go_roundw
        case rel => exact ⟨k + 1, by omega, by go_num, H9⟩
        case measure => simp [intOf]; omega
    · have hk3' : k = 3 := by omega
      subst hk3'
      have R8 : Hid (RdAt wr g b N cap l (p + 1 + 2 * O)) := Lib.hid (by have := H.out.2.1; rwa [show min 3 O = O from by omega] at this)
      have k1 := cell_heap (cs := [.int .i64 vars, .slice A1 n c1, .slice A2 i c2]) H.out.2.2.1 1 _ rfl
      have i3 : IntKind.i64.wrap ((n : Int) - 1) = (n : Int) - 1 := IntWalk.i64_in _ ⟨by omega, by omega⟩
      cases t1 : (C i 0 == 1)
      case true =>
        have e1 : C i 0 = 1 := by simpa using t1
        have HN := Lib.hid (RNC.out e1)
        clear e1
        go_wp2_with fail
        refine (HN.out _ R8.out).mono ?_
        rintro e3 w3 ⟨rfl, hg3, hr3⟩
        have hC3 := grown_heap hg3 H.out.2.2.2.2.1 (by omega)
        have hS3 := grown_heap hg3 H.out.2.2.2.1 (by omega)
        have hbl0 := HR.out.lt
        have G9 : Hid (w.grownBy (w3.setCell ⟨gc, 4, none⟩ (.int .i64 (C i 4))) (some g)) := Lib.hid (grown_setNew (grown_trans H.out.1 hg3) (by omega) _ _)
        have R9 : Hid (RdAt (w3.setCell ⟨gc, 4, none⟩ (.int .i64 (C i 4))) g b N cap l T) := Lib.hid (hr3.set (by omega) (by omega) _ _)
        clear hg3 hr3 k1 q0
        have q0 : w3.cell? ⟨gc, 0, none⟩ = some (.int .i64 (C i 0)) := cell_heap hC3 0 _ rfl
        have q1 : w3.cell? ⟨gc, 1, none⟩ = some (.int .i64 (C i 1)) := cell_heap hC3 1 _ rfl
        have q2 : w3.cell? ⟨gc, 2, none⟩ = some (.int .i64 (C i 2)) := cell_heap hC3 2 _ rfl
        have q3 : w3.cell? ⟨gc, 3, none⟩ = some (.int .i64 (C i 3)) := cell_heap hC3 3 _ rfl
        have q4 : w3.cell? ⟨gc, 4, none⟩ = some (.int .i64 0) := cell_heap hC3 4 _ rfl
        have fq : w3.frozen? ⟨gc, 4, none⟩ = false := frozen_heap hC3 4
        have r0 := cell_heap (cs := [.int .i64 0, .int .i64 0, .int .i64 0, .int .i64 0, .int .i64 0]) hS3 0 _ rfl
        have r1 := cell_heap (cs := [.int .i64 0, .int .i64 0, .int .i64 0, .int .i64 0, .int .i64 0]) hS3 1 _ rfl
        have r2 := cell_heap (cs := [.int .i64 0, .int .i64 0, .int .i64 0, .int .i64 0, .int .i64 0]) hS3 2 _ rfl
        have r3 := cell_heap (cs := [.int .i64 0, .int .i64 0, .int .i64 0, .int .i64 0, .int .i64 0]) hS3 3 _ rfl
        have r4 := cell_heap (cs := [.int .i64 0, .int .i64 0, .int .i64 0, .int .i64 0, .int .i64 0]) hS3 4 _ rfl
        have f0 := frozen_heap hS3 0
        have f1 := frozen_heap hS3 1
        have f2 := frozen_heap hS3 2
        have f3 := frozen_heap hS3 3
        have f4 := frozen_heap hS3 4
        have hz := heap_lt hS3
        have hzc := heap_lt hC3
        clear hC3 hS3
        go_wp2
        all_goals
          refine bodyPost_ret (v := .agg #[.int .i64 (C i 0), .int .i64 (C i 1), .int .i64 (C i 2), .int .i64 (C i 3), .int .i64 (C i 4)]) (by simp [results, Try.results122, go_sem, *]) rfl ⟨rfl, ?_, ?_⟩
          · have hs : w.heap.size ≤ w.heap.size + 1 := by omega
            exact grown_setNew (grown_setNew (grown_setNew (grown_setNew (grown_setNew G9.out hs 0 _) hs 1 _) hs 2 _) hs 3 _) hs 4 _
          · have hbl := HR.out.lt
            have e1 : w.heap.size + 1 ≠ g := by omega
            have e2 : w.heap.size + 1 ≠ b := by omega
            exact (((((R9.out.set e1 e2 0 _).set e1 e2 1 _).set e1 e2 2 _).set e1 e2 3 _).set e1 e2 4 _)
      case false =>
        cases t2 : (C i 0 == 12)
        case true =>
          have e1 : C i 0 = 12 := by simpa using t2
          have HN := Lib.hid (RNP.out e1)
          clear e1
          go_wp2_with fail
          refine (HN.out _ R8.out).mono ?_
          rintro e3 w3 ⟨rfl, hg3, hr3⟩
          have hC3 := grown_heap hg3 H.out.2.2.2.2.1 (by omega)
          have hS3 := grown_heap hg3 H.out.2.2.2.1 (by omega)
          have hbl0 := HR.out.lt
          have G9 : Hid (w.grownBy (w3.setCell ⟨gc, 4, none⟩ (.int .i64 (C i 4))) (some g)) := Lib.hid (grown_setNew (grown_trans H.out.1 hg3) (by omega) _ _)
          have R9 : Hid (RdAt (w3.setCell ⟨gc, 4, none⟩ (.int .i64 (C i 4))) g b N cap l T) := Lib.hid (hr3.set (by omega) (by omega) _ _)
          clear hg3 hr3 k1 q0
          have q0 : w3.cell? ⟨gc, 0, none⟩ = some (.int .i64 (C i 0)) := cell_heap hC3 0 _ rfl
          have q1 : w3.cell? ⟨gc, 1, none⟩ = some (.int .i64 (C i 1)) := cell_heap hC3 1 _ rfl
          have q2 : w3.cell? ⟨gc, 2, none⟩ = some (.int .i64 (C i 2)) := cell_heap hC3 2 _ rfl
          have q3 : w3.cell? ⟨gc, 3, none⟩ = some (.int .i64 (C i 3)) := cell_heap hC3 3 _ rfl
          have q4 : w3.cell? ⟨gc, 4, none⟩ = some (.int .i64 0) := cell_heap hC3 4 _ rfl
          have fq : w3.frozen? ⟨gc, 4, none⟩ = false := frozen_heap hC3 4
          have r0 := cell_heap (cs := [.int .i64 0, .int .i64 0, .int .i64 0, .int .i64 0, .int .i64 0]) hS3 0 _ rfl
          have r1 := cell_heap (cs := [.int .i64 0, .int .i64 0, .int .i64 0, .int .i64 0, .int .i64 0]) hS3 1 _ rfl
          have r2 := cell_heap (cs := [.int .i64 0, .int .i64 0, .int .i64 0, .int .i64 0, .int .i64 0]) hS3 2 _ rfl
          have r3 := cell_heap (cs := [.int .i64 0, .int .i64 0, .int .i64 0, .int .i64 0, .int .i64 0]) hS3 3 _ rfl
          have r4 := cell_heap (cs := [.int .i64 0, .int .i64 0, .int .i64 0, .int .i64 0, .int .i64 0]) hS3 4 _ rfl
          have f0 := frozen_heap hS3 0
          have f1 := frozen_heap hS3 1
          have f2 := frozen_heap hS3 2
          have f3 := frozen_heap hS3 3
          have f4 := frozen_heap hS3 4
          have hz := heap_lt hS3
          have hzc := heap_lt hC3
          clear hC3 hS3
          go_wp2
          all_goals
            refine bodyPost_ret (v := .agg #[.int .i64 (C i 0), .int .i64 (C i 1), .int .i64 (C i 2), .int .i64 (C i 3), .int .i64 (C i 4)]) (by simp [results, Try.results122, go_sem, *]) rfl ⟨rfl, ?_, ?_⟩
            · have hs : w.heap.size ≤ w.heap.size + 1 := by omega
              exact grown_setNew (grown_setNew (grown_setNew (grown_setNew (grown_setNew G9.out hs 0 _) hs 1 _) hs 2 _) hs 3 _) hs 4 _
            · have hbl := HR.out.lt
              have e1 : w.heap.size + 1 ≠ g := by omega
              have e2 : w.heap.size + 1 ≠ b := by omega
              exact (((((R9.out.set e1 e2 0 _).set e1 e2 1 _).set e1 e2 2 _).set e1 e2 3 _).set e1 e2 4 _)
        case false =>
          obtain ⟨hT, h40⟩ := HLN.out (by simp at t1 t2; omega)
          have G9 : Hid (w.grownBy wr (some g)) := Lib.hid H.out.1
          have R9 : Hid (RdAt wr g b N cap l T) := Lib.hid (by have := R8.out; rwa [hT] at this)
          have hC3 := H.out.2.2.2.2.1
          have hS3 := H.out.2.2.2.1
          clear k1 q0 hT
          have q0 : wr.cell? ⟨gc, 0, none⟩ = some (.int .i64 (C i 0)) := cell_heap hC3 0 _ rfl
          have q1 : wr.cell? ⟨gc, 1, none⟩ = some (.int .i64 (C i 1)) := cell_heap hC3 1 _ rfl
          have q2 : wr.cell? ⟨gc, 2, none⟩ = some (.int .i64 (C i 2)) := cell_heap hC3 2 _ rfl
          have q3 : wr.cell? ⟨gc, 3, none⟩ = some (.int .i64 (C i 3)) := cell_heap hC3 3 _ rfl
          have q4 : wr.cell? ⟨gc, 4, none⟩ = some (.int .i64 0) := cell_heap hC3 4 _ rfl
          have fq : wr.frozen? ⟨gc, 4, none⟩ = false := frozen_heap hC3 4
          have r0 := cell_heap (cs := [.int .i64 0, .int .i64 0, .int .i64 0, .int .i64 0, .int .i64 0]) hS3 0 _ rfl
          have r1 := cell_heap (cs := [.int .i64 0, .int .i64 0, .int .i64 0, .int .i64 0, .int .i64 0]) hS3 1 _ rfl
          have r2 := cell_heap (cs := [.int .i64 0, .int .i64 0, .int .i64 0, .int .i64 0, .int .i64 0]) hS3 2 _ rfl
          have r3 := cell_heap (cs := [.int .i64 0, .int .i64 0, .int .i64 0, .int .i64 0, .int .i64 0]) hS3 3 _ rfl
          have r4 := cell_heap (cs := [.int .i64 0, .int .i64 0, .int .i64 0, .int .i64 0, .int .i64 0]) hS3 4 _ rfl
          have f0 := frozen_heap hS3 0
          have f1 := frozen_heap hS3 1
          have f2 := frozen_heap hS3 2
          have f3 := frozen_heap hS3 3
          have f4 := frozen_heap hS3 4
          have hz := heap_lt hS3
          have hzc := heap_lt hC3
          clear hC3 hS3
          go_wp2
          all_goals
            refine bodyPost_ret (v := .agg #[.int .i64 (C i 0), .int .i64 (C i 1), .int .i64 (C i 2), .int .i64 (C i 3), .int .i64 (C i 4)]) (by simp [results, Try.results122, go_sem, *]) rfl ⟨rfl, ?_, ?_⟩
            · have hs : w.heap.size ≤ w.heap.size + 1 := by omega
              exact grown_setNew (grown_setNew (grown_setNew (grown_setNew (grown_setNew G9.out hs 0 _) hs 1 _) hs 2 _) hs 3 _) hs 4 _
            · have hbl := HR.out.lt
              have e1 : w.heap.size + 1 ≠ g := by omega
              have e2 : w.heap.size + 1 ≠ b := by omega
              exact (((((R9.out.set e1 e2 0 _).set e1 e2 1 _).set e1 e2 2 _).set e1 e2 3 _).set e1 e2 4 _)

end Go.Proofs.Ytamaeggkpdgaiaa
