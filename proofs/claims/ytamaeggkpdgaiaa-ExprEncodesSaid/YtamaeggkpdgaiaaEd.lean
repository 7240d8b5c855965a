/- A program's bytes: plain functions; vergelaw16.same; the walk of vergeref16.Encode. -/
import Derived.Test.YtamaeggkpdgaiaaEc
import Derived.Test.YtamaeggkpdgaiaaWt
import Derived.Laws.BytesArg
namespace Go.Proofs.Ytamaeggkpdgaiaa
open Go.RowKit

theorem bv_get (l : List Int) (i : Nat) (h : i < l.length) : (bv l)[i]? = some (.int .u8 (l.getD i 0)) := by
  unfold bv
  simp [List.getElem?_map, List.getElem?_eq_getElem h, List.getD]
theorem OwnB.cell {w : World} {base g : Nat} {n cap : Nat} {l : List Int} (h : OwnB w base (some ⟨g, 0, none⟩) n cap l) (i : Nat) (hi : i < n) : w.cell? ⟨g, 0 + i, none⟩ = some (.int .u8 (l.getD i 0)) := by
  have hc := World.ownsRow.cells h (g := g) rfl i _ (bv_get l i (by rw [h.len]; exact hi))
  have e : (⟨g, 0, none⟩ : Addr).add i = ⟨g, 0 + i, none⟩ := by unfold Addr.add; split <;> simp_all
  rw [e] at hc; exact hc
theorem OwnB.conv {w : World} {base : Nat} {A : Option Addr} {n cap : Nat} {l : List Int} (h : OwnB w base A n cap l) (hn : 0 < n) :
    (convert 81 9 (.slice A n cap)).run Try.prog w = .ok (.string (strOfNums l)) w := by
  obtain ⟨g, rfl, _⟩ := h.at' hn
  exact run_convert_bytes_arg w 81 5 Try.underlying81 Try.underlying5 g 0 n cap l h.len (fun i hi => h.cell i hi) 9 Try.underlying9

set_option maxRecDepth 100000 in
set_option maxHeartbeats 400000 in
theorem same_any (A B : Option Addr) (n cap cap2 b1 b2 : Nat) (l : List Int) (w : World) (hn : 0 < n) (h1 : OwnB w b1 A n cap l) (h2 : OwnB w b2 B n cap2 l) :
    Calls Try.prog 38 #[.slice A n cap, .slice B n cap2] w fun e w' => e = .returned (.bool true) ∧ w = w' := by
  have c1 := h1.conv hn
  have c2 := h2.conv hn
  clear h1 h2
  generalize strOfNums l = s at *
  go_enter Try.func38, Try.ntmps38
  go_wp2
  go_ret
  exact ⟨ret_bool (by simp), rfl⟩

/-- A program's bytes. -/
def encK (L : Nat → Nat × Nat) (k : Nat) : List Int := (List.range k).flatMap fun i => leK (L i).1 8 ++ leK (L i).2 8
theorem encK_succ (L : Nat → Nat × Nat) (k : Nat) : encK L (k + 1) = encK L k ++ (leK (L k).1 8 ++ leK (L k).2 8) := by unfold encK; rw [List.range_succ, List.flatMap_append]; simp
def encO (C : Nat → Nat → Int) (i j : Nat) : List Int := (List.range j).flatMap fun q => two (C i (q + 1))
theorem encO_succ (C : Nat → Nat → Int) (i j : Nat) : encO C i (j + 1) = encO C i j ++ two (C i (j + 1)) := by unfold encO; rw [List.range_succ, List.flatMap_append]; simp
def encN (C : Nat → Nat → Int) (i : Nat) : List Int := if C i 0 = 1 ∨ C i 0 = 12 then two (C i 4) else []
def encL (C : Nat → Nat → Int) (i : Nat) : List Int := [C i 0 % 256] ++ (encO C i (opsN (C i 0)).toNat ++ encN C i)
def encC (C : Nat → Nat → Int) (k : Nat) : List Int := (List.range k).flatMap (encL C)
theorem encC_succ (C : Nat → Nat → Int) (k : Nat) : encC C (k + 1) = encC C k ++ encL C k := by unfold encC; rw [List.range_succ, List.flatMap_append]; simp
def encH (vars : Int) (n : Nat) : List Int := [86, 71, 1, vars % 256] ++ two (n : Int)
def encP (vars : Int) (n m : Nat) (L : Nat → Nat × Nat) (C : Nat → Nat → Int) : List Int := (encH vars n ++ encK L n) ++ two (m : Int) ++ encC C m

/-- A block of another type is not the one that append writes. -/
theorem keep_other {w w' : World} {g base n cap : Nat} {A : Option Addr} {l : List Int} {cs : Array Value} {T : TypeId} (hh : w.heap[g]? = some (.cells cs T (0, 0))) (hT : T ≠ 5) (own : OwnB w base A n cap l) (hg : w.grownBy w' (Value.slice A n cap).ownBlock) :
    w'.heap[g]? = some (.cells cs T (0, 0)) := by
  have hlt := (Array.getElem?_eq_some_iff.1 hh).1
  rw [hg.block g hlt ?_]
  · exact hh
  · intro e
    rcases own.2 with ⟨h1, _⟩ | ⟨g', cp, cur, hv, hb, hg', _⟩
    · injection h1 with h2
      rw [h2] at e
      simp [Value.ownBlock] at e
    · injection hv with h2
      rw [h2] at e
      simp [Value.ownBlock] at e
      subst e
      rw [hh] at hg'
      injection hg' with h3
      injection h3 with _ h4
      exact hT h4
theorem cell_heap {w : World} {g : Nat} {cs : List Value} {T : TypeId} (hh : w.heap[g]? = some (.cells cs.toArray T (0, 0))) (o : Nat) (v : Value) (hv : cs[o]? = some v) : w.cell? ⟨g, o, none⟩ = some v := by
  unfold World.cell?; rw [hh]; simp [hv]
theorem heap_lt {w : World} {g : Nat} {o : Obj} (hh : w.heap[g]? = some o) : g < w.heap.size := (Array.getElem?_eq_some_iff.1 hh).1
theorem opsN_le (op : Int) : opsN op ≤ 3 := by
  unfold opsN
  simp only [cond_eq_ite]
  repeat' split
  all_goals omega
/-- A line's own block. -/
def lineV (C : Nat → Nat → Int) (i : Nat) : List Value := [.int .i64 (C i 0), .int .i64 (C i 1), .int .i64 (C i 2), .int .i64 (C i 3), .int .i64 (C i 4)]

set_option maxRecDepth 100000 in
set_option maxHeartbeats 2000000 in
theorem encode16_any (vars : Int) (A1 A2 : Option Addr) (n cp1 m cp2 : Nat) (L : Nat → Nat × Nat) (C : Nat → Nat → Int) (w : World) (hL : ∀ i < n, W64 (L i).1 ∧ W64 (L i).2) (hn : n ≤ 256) (hm : m ≤ 1024) (hop : ∀ i < m, 0 ≤ opsN (C i 0))
    (hr : RowN w w.heap.size 2 A1 n (fU L)) (hr2 : RowN w w.heap.size 5 A2 m (fI C)) :
    Calls Try.prog 37 #[.agg #[.int .i64 vars, .slice A1 n cp1, .slice A2 m cp2]] w
      fun e w' => ∃ len, 0 < len ∧ len ≤ 20000 ∧ NewB len (encP vars n m L C) e w w' := by
  have HR := Lib.hid hr; have HR2 := Lib.hid hr2; have HL := Lib.hid hL; have HO := Lib.hid hop
  clear hr hr2 hL hop
  have KB : Hid (∀ w', Below (w.heap.size + 1) (w.alloc (.cells #[.int .i64 vars, .slice A1 n cp1, .slice A2 m cp2] 60)) w' → (Below w.heap.size w w' ∧ w'.cell? ⟨w.heap.size, 0, none⟩ = some (.int .i64 vars) ∧ w'.cell? ⟨w.heap.size, 1, none⟩ = some (.slice A1 n cp1) ∧ w'.cell? ⟨w.heap.size, 2, none⟩ = some (.slice A2 m cp2) ∧ w.heap.size < w'.heap.size)) := Lib.hid (fun w' h =>
    ⟨((Below.refl _ _).alloc (Nat.le_refl _) _).trans (h.mono (by omega)), cells_box w w' [.int .i64 vars, .slice A1 n cp1, .slice A2 m cp2] h 0 _ rfl, cells_box w w' [.int .i64 vars, .slice A1 n cp1, .slice A2 m cp2] h 1 _ rfl, cells_box w w' [.int .i64 vars, .slice A1 n cp1, .slice A2 m cp2] h 2 _ rfl, by have := h.size; simp at this; omega⟩)
  go_enter Try.func37, Try.ntmps37
  go_wp2_with fail
  obtain ⟨WB, hWB⟩ : ∃ V : World, V = w.alloc (.cells #[.int .i64 vars, .slice A1 n cp1, .slice A2 m cp2] 60) := ⟨_, rfl⟩
  have hSB : WB.heap.size = w.heap.size + 1 := by rw [hWB]; simp
  rw [← hWB] at KB ⊢
  clear hWB
  have HSB := Lib.hid hSB
  have own0 : OwnB (WB.alloc (.cells #[.int .u8 86, .int .u8 71, .int .u8 1, .int .u8 (vars % 256)] 5)) (w.heap.size + 1) (some ⟨w.heap.size + 1, 0, none⟩) 4 4 [86, 71, 1, vars % 256] := by
    have := own_lit WB (w.heap.size + 1) [86, 71, 1, vars % 256] (by omega) (by simp)
    rwa [hSB] at this
  refine (two16_any (n : Int) _).mono ?_
  rintro e1 w1 ⟨B1, c1, rfl, own1, hb1⟩
  have H0 := Lib.hid (own0.below hb1)
  have H1 := Lib.hid own1
  have HZ1 : Hid (Below (w.heap.size + 1) WB w1) := Lib.hid (((Below.refl _ _).alloc (by omega) _).trans (hb1.mono (by simp; omega)))
  have hs1 : w.heap.size + 1 ≤ w1.heap.size := by have := HZ1.out.size; omega
  clear own0 own1 hb1 hSB
  go_wp2_with (at_builtin; (refine app8 rfl _ _ rfl (w.heap.size + 1) _ (some ⟨w.heap.size + 1, 0, none⟩) 4 4 [86, 71, 1, vars % 256] rfl H0.out B1 2 c1 (two (n : Int)) rfl H1.out (by omega) (by omega) hs1 ?_); intro A' cap' w2 hown2 _ hbel2)
  have HI : Hid (OwnB w2 (w.heap.size + 1) A' 6 cap' (encH vars n ++ encK L 0) ∧ Below (w.heap.size + 1) WB w2) := Lib.hid ⟨by rw [show encK L 0 = [] from rfl, List.append_nil]; exact hown2, HZ1.out.trans hbel2⟩
  clear hown2 hbel2
  go_wp2
  go_loopw [3, 4] (fun lv iv wr => ∃ (k len : Nat) (A : Option Addr) (cap : Nat), k ≤ n ∧ len ≤ 6 + 16 * k ∧ lv = .slice A len cap ∧ iv = .int .i64 (k : Int) ∧ Hid (OwnB wr (w.heap.size + 1) A len cap (encH vars n ++ encK L k) ∧ Below (w.heap.size + 1) WB wr)) (fun _ iv _ => n - (intOf iv).toNat)
  case atStart => exact ⟨0, 6, A', cap', by omega, by omega, rfl, rfl, HI⟩
  case round =>
    obtain ⟨k, len, A, cap, hk, hlen, rfl, rfl, H⟩ := hrel
    obtain ⟨-, k0, k1, k2, l0⟩ := KB.out wr H.out.2
    by_cases hkn : k < n
    · have hkn' : (k : Int) < (n : Int) := by omega
      obtain ⟨b, off, rfl, hbB, hc⟩ := HR.out (by omega)
      have hB := (KB.out wr H.out.2).1
      have r0 := (hB.cell (p := ⟨b, off + k * 2 + 0, none⟩) hbB).trans (hc k hkn 0 (by omega))
      have r1 := (hB.cell (p := ⟨b, off + k * 2 + 1, none⟩) hbB).trans (hc k hkn 1 (by omega))
      simp only [fU, if_true, Nat.add_zero, Nat.one_ne_zero, if_false] at r0 r1
      clear hc hB
      obtain ⟨hx, hy⟩ := HL.out k hkn
      have hbw : b < wr.heap.size := by omega
      go_wp2_with fail
      refine (sixteen_any _ _ hx hy _).mono ?_
      rintro e3 w3 ⟨B3, c3, rfl, own3, hb3⟩
      have H3 := Lib.hid own3
      have HO3 := Lib.hid (H.out.1.below hb3)
      have HZ3 : Hid (Below (w.heap.size + 1) WB w3) := Lib.hid (H.out.2.trans (hb3.mono (by have := H.out.2.size; have := HSB.out; omega)))
      have hs3 : w.heap.size + 1 ≤ w3.heap.size := by have := HZ3.out.size; have := HSB.out; omega
      clear own3 hb3 k0 k1 k2 r0 r1 l0 hbw
      go_wp2_with (at_builtin; (refine app8 rfl _ _ rfl (w.heap.size + 1) _ A len cap (encH vars n ++ encK L k) rfl HO3.out B3 16 c3 _ rfl H3.out (by omega) (by omega) hs3 ?_); intro A'' cap'' w4 hown4 _ hbel4)
      have H4 : Hid (OwnB w4 (w.heap.size + 1) A'' (len + 16) cap'' (encH vars n ++ encK L (k + 1)) ∧ Below (w.heap.size + 1) WB w4) := Lib.hid ⟨by rw [encK_succ, ← List.append_assoc]; exact hown4, HZ3.out.trans hbel4⟩
      clear hown4 hbel4
      go_wp2
      go_roundw
      case rel => exact ⟨k + 1, len + 16, A'', cap'', by omega, by omega, rfl, by go_num, H4⟩
      case measure => simp [intOf]; omega
    · have : k = n := by omega
      subst this
      go_wp2_with fail
      refine (two16_any (m : Int) _).mono ?_
      rintro e3 w3 ⟨B3, c3, rfl, own3, hb3⟩
      have H3 := Lib.hid own3
      have HO3 := Lib.hid (H.out.1.below hb3)
      have HZ3 : Hid (Below (w.heap.size + 1) WB w3) := Lib.hid (H.out.2.trans (hb3.mono (by have := H.out.2.size; have := HSB.out; omega)))
      have hs3 : w.heap.size + 1 ≤ w3.heap.size := by have := HZ3.out.size; have := HSB.out; omega
      clear own3 hb3 k0 k1 k2 l0
      go_wp2_with (at_builtin; (refine app8 rfl _ _ rfl (w.heap.size + 1) _ A len cap (encH vars k ++ encK L k) rfl HO3.out B3 2 c3 _ rfl H3.out (by omega) (by omega) hs3 ?_); intro A'' cap'' w4 hown4 _ hbel4)
      obtain ⟨P, hP⟩ : ∃ P, P = (encH vars k ++ encK L k) ++ two (m : Int) := ⟨_, rfl⟩
      rw [← hP] at hown4
      have H4 : Hid (OwnB w4 (w.heap.size + 1) A'' (len + 2) cap'' (P ++ encC C 0) ∧ Below (w.heap.size + 1) WB w4) := Lib.hid ⟨by rw [show encC C 0 = [] from rfl, List.append_nil]; exact hown4, HZ3.out.trans hbel4⟩
      have HP : Hid (encP vars k m L C = P ++ encC C m) := Lib.hid (by rw [hP]; rfl)
      have hl4 : len + 2 ≤ 5000 := by omega
      have hl5 : 0 < len + 2 := by omega
      clear hown4 hbel4 hP H3 HO3 HZ3 hs3
      generalize len + 2 = len0 at *
      go_wp2
      go_loopw [3, 5] (fun lv iv wr => ∃ (i len : Nat) (A : Option Addr) (cap : Nat), i ≤ m ∧ len ≤ 5000 + 9 * i ∧ 0 < len ∧ lv = .slice A len cap ∧ iv = .int .i64 (i : Int) ∧ Hid (OwnB wr (w.heap.size + 1) A len cap (P ++ encC C i) ∧ Below (w.heap.size + 1) WB wr)) (fun _ iv _ => m - (intOf iv).toNat)
      case atStart => exact ⟨0, len0, A'', cap'', by omega, by omega, hl5, rfl, rfl, H4⟩
      case round =>
        obtain ⟨i, len2, A2', cap2, hi, hlen2, hpos, rfl, rfl, H2⟩ := hrel
        obtain ⟨hB, k0, k1, k2, l0⟩ := KB.out wr H2.out.2
        by_cases him : i < m
        · have him' : (i : Int) < (m : Int) := by omega
          obtain ⟨b, off, rfl, hbB, hc⟩ := HR2.out (by omega)
          have r0 := (hB.cell (p := ⟨b, off + i * 5 + 0, none⟩) hbB).trans (hc i him 0 (by omega))
          have r1 := (hB.cell (p := ⟨b, off + i * 5 + 1, none⟩) hbB).trans (hc i him 1 (by omega))
          have r2 := (hB.cell (p := ⟨b, off + i * 5 + 2, none⟩) hbB).trans (hc i him 2 (by omega))
          have r3 := (hB.cell (p := ⟨b, off + i * 5 + 3, none⟩) hbB).trans (hc i him 3 (by omega))
          have r4 := (hB.cell (p := ⟨b, off + i * 5 + 4, none⟩) hbB).trans (hc i him 4 (by omega))
          simp only [fI, Nat.add_zero] at r0 r1 r2 r3 r4
          have hop := HO.out i him
          have hop3 := opsN_le (C i 0)
          have hbw : b < wr.heap.size := by omega
          clear hc hB
          obtain ⟨V1, hV1⟩ : ∃ V : World, V = wr.alloc (.cells #[.int .i64 (C i 0), .int .i64 (C i 1), .int .i64 (C i 2), .int .i64 (C i 3), .int .i64 (C i 4)] 120) := ⟨_, rfl⟩
          have hs1 : V1.heap.size = wr.heap.size + 1 := by rw [hV1]; simp
          have ownS : OwnB (V1.alloc (.cells #[.int .u8 (C i 0 % 256)] 5)) (wr.heap.size + 1) (some ⟨wr.heap.size + 1, 0, none⟩) 1 1 [C i 0 % 256] := by
            have := own_lit V1 (wr.heap.size + 1) [C i 0 % 256] (by omega) (by simp)
            rwa [hs1] at this
          have ownD : OwnB (V1.alloc (.cells #[.int .u8 (C i 0 % 256)] 5)) (w.heap.size + 1) A2' len2 cap2 (P ++ encC C i) := by rw [hV1]; exact (H2.out.1.alloc _).alloc _
          have hC0 : (V1.alloc (.cells #[.int .u8 (C i 0 % 256)] 5)).heap[wr.heap.size]? = some (.cells (lineV C i).toArray 120 (0, 0)) := (heap_alloc_old V1 _ (by omega)).trans (by rw [hV1]; exact heap_alloc_new wr _)
          have hZ5 : Below (w.heap.size + 1) WB (V1.alloc (.cells #[.int .u8 (C i 0 % 256)] 5)) := by rw [hV1]; exact (H2.out.2.alloc (by omega) _).alloc (by simp; omega) _
          rw [hV1] at ownS ownD hC0 hZ5
          have OS := Lib.hid ownS; have OD := Lib.hid ownD; have HC0 := Lib.hid hC0; have HZ5 := Lib.hid hZ5
          clear ownS ownD hC0 hZ5 hs1 hV1 V1
          go_wp2_with (at_builtin; (refine app8 rfl _ _ rfl (w.heap.size + 1) _ A2' len2 cap2 (P ++ encC C i) rfl OD.out (some ⟨wr.heap.size + 1, 0, none⟩) 1 1 [C i 0 % 256] rfl OS.out (by omega) (by omega) (by simp; omega) ?_); intro A5 cap5 w5 hown5 hgr5 hbel5)
          have H5 : Hid (w5.heap[wr.heap.size]? = some (.cells (lineV C i).toArray 120 (0, 0)) ∧ OwnB w5 (w.heap.size + 1) A5 (len2 + 1) cap5 (((P ++ encC C i) ++ [C i 0 % 256]) ++ encO C i 0) ∧ Below (w.heap.size + 1) WB w5) := Lib.hid ⟨keep_other HC0.out (by decide) OD.out hgr5, by rw [show encO C i 0 = [] from rfl, List.append_nil]; exact hown5, HZ5.out.trans hbel5⟩
          clear hown5 hgr5 hbel5 OS OD HC0 HZ5 r0 r1 r2 r3 r4 k0 k1 k2 hbw
          obtain ⟨Q, hQ⟩ : ∃ Q, Q = (P ++ encC C i) ++ [C i 0 % 256] := ⟨_, rfl⟩
          rw [← hQ] at H5
          have HQ : Hid (P ++ encC C (i + 1) = Q ++ encO C i (opsN (C i 0)).toNat ++ encN C i) := Lib.hid (by rw [hQ, encC_succ]; unfold encL; simp only [List.append_assoc])
          clear hQ
          have hO : opsN (C i 0) = ((opsN (C i 0)).toNat : Int) := by omega
          have hO3 : (opsN (C i 0)).toNat ≤ 3 := by omega
          have HOP := Lib.hid hO
          clear hop hop3 hO
          generalize (opsN (C i 0)).toNat = O at *
          generalize hg : wr.heap.size = g at *
          go_wp2
          go_loopw [3, 7] (fun lv jv wq => ∃ (j len : Nat) (A : Option Addr) (cap : Nat), j ≤ O ∧ len ≤ len2 + 1 + 2 * j ∧ 0 < len ∧ lv = .slice A len cap ∧ jv = .int .i64 (j : Int) ∧ Hid (wq.heap[g]? = some (.cells (lineV C i).toArray 120 (0, 0)) ∧ OwnB wq (w.heap.size + 1) A len cap (Q ++ encO C i j) ∧ Below (w.heap.size + 1) WB wq)) (fun _ jv _ => O - (intOf jv).toNat)
          case atStart => exact ⟨0, len2 + 1, A5, cap5, by omega, by omega, by omega, rfl, rfl, H5⟩
          case round =>
            obtain ⟨j, len3, A3, cap3, hj, hlen3, hpos3, rfl, rfl, H6⟩ := hrel
            have hg2 := heap_lt H6.out.1
            have q0 := cell_heap H6.out.1 0 _ rfl
            have q1 := cell_heap H6.out.1 1 _ rfl
            have q2 := cell_heap H6.out.1 2 _ rfl
            have q3 := cell_heap H6.out.1 3 _ rfl
            have q4 := cell_heap H6.out.1 4 _ rfl
            by_cases hjO : j < O
            · have hjO' : (j : Int) < (O : Int) := by omega
              go_wp2_with fail
              refine (operands16_any _ _).mono ?_
              rintro e6 w6 ⟨rfl, rfl⟩
              rw [HOP.out]
              have OPJ : Hid (∀ w : World, Calls Try.prog 80 #[.agg #[.int .i64 (C i 0), .int .i64 (C i 1), .int .i64 (C i 2), .int .i64 (C i 3), .int .i64 (C i 4)], .int .i64 (j : Int)] w fun e w' => e = .returned (.int .i64 (C i (j + 1))) ∧ Below w.heap.size w w') := Lib.hid (by
                intro w
                have : j = 0 ∨ j = 1 ∨ j = 2 := by omega
                rcases this with rfl | rfl | rfl
                · exact operand_0 _ _ _ _ _ w
                · exact operand_1 _ _ _ _ _ w
                · exact operand_2 _ _ _ _ _ w)
              go_wp2_with fail
              refine (OPJ.out _).mono ?_
              rintro e7 w7 ⟨rfl, hb7⟩
              have hs7 : wr.heap.size ≤ w7.heap.size := hb7.size
              have HB7 := Lib.hid hb7; clear hb7 q0 q1 q2 q3 q4
              go_wp2_with fail
              refine (two16_any _ _).mono ?_
              rintro e8 w8 ⟨B8, c8, rfl, own8, hb8⟩
              have HB8 := Lib.hid (HB7.out.trans (hb8.mono hs7))
              have H8 := Lib.hid own8
              have hsz : w.heap.size + 1 ≤ wr.heap.size := by have := H6.out.2.2.size; have := HSB.out; omega
              have hs8 : wr.heap.size ≤ w8.heap.size := HB8.out.size
              have HO8 := Lib.hid (H6.out.2.1.below HB8.out)
              have HC8 : Hid (w8.heap[g]? = some (.cells (lineV C i).toArray 120 (0, 0))) := Lib.hid (by rw [HB8.out.block g hg2]; exact H6.out.1)
              clear own8 hb8
              go_wp2_with (at_builtin; (refine app8 rfl _ _ rfl (w.heap.size + 1) _ A3 len3 cap3 (Q ++ encO C i j) rfl HO8.out B8 2 c8 _ rfl H8.out (by omega) (by omega) (by omega) ?_); intro A9 cap9 w9 hown9 hgr9 hbel9)
              have H9 : Hid (w9.heap[g]? = some (.cells (lineV C i).toArray 120 (0, 0)) ∧ OwnB w9 (w.heap.size + 1) A9 (len3 + 2) cap9 (Q ++ encO C i (j + 1)) ∧ Below (w.heap.size + 1) WB w9) := Lib.hid ⟨keep_other HC8.out (by decide) HO8.out hgr9, by rw [encO_succ, ← List.append_assoc]; exact hown9, (H6.out.2.2.trans (HB8.out.mono hsz)).trans hbel9⟩
              clear hown9 hgr9 hbel9
              go_wp2
              go_roundw
              case rel => exact ⟨j + 1, len3 + 2, A9, cap9, by omega, by omega, by omega, rfl, by go_num, H9⟩
              case measure => simp [intOf]; omega
            · have : j = O := by omega
              subst this
              go_wp2_with fail
              refine (operands16_any _ _).mono ?_
              rintro e6 w6 ⟨rfl, rfl⟩
              rw [HOP.out]
              have hsz : w.heap.size + 1 ≤ wr.heap.size := by have := H6.out.2.2.size; have := HSB.out; omega
              cases ht : ((C i 0 == 1) || (C i 0 == 12))
              case false =>
                have hN : encN C i = [] := by unfold encN; rw [if_neg (by intro h; simp at ht; omega)]
                have H9 : Hid (OwnB wr (w.heap.size + 1) A3 len3 cap3 (P ++ encC C (i + 1)) ∧ Below (w.heap.size + 1) WB wr) := Lib.hid ⟨by rw [HQ.out, hN, List.append_nil]; exact H6.out.2.1, H6.out.2.2⟩
                have t1 : (C i 0 == 1) = false := by revert ht; cases (C i 0 == 1) <;> simp
                have t2 : (C i 0 == 12) = false := by revert ht; cases (C i 0 == 12) <;> simp
                clear ht hN
                go_wp2
                go_roundw
                case rel => exact ⟨i + 1, len3, A3, cap3, by omega, by omega, hpos3, rfl, by go_num, H9⟩
                case measure => simp [intOf]; omega
              case true =>
                have hN : encN C i = two (C i 4) := by unfold encN; rw [if_pos (by simp at ht; omega)]
                have HN := Lib.hid hN
                have H0' : Hid (True) := Lib.hid trivial
                have tt : (C i 0 == 1) = true ∨ ((C i 0 == 1) = false ∧ (C i 0 == 12) = true) := by revert ht; cases (C i 0 == 1) <;> cases (C i 0 == 12) <;> simp
                clear ht hN
                rcases tt with t1 | ⟨t1, t2⟩
                all_goals
                  go_wp2_with fail
                  refine (two16_any _ _).mono ?_
                  rintro e8 w8 ⟨B8, c8, rfl, own8, hb8⟩
                  have HB8 := Lib.hid hb8
                  have H8 := Lib.hid own8
                  have hs8 : wr.heap.size ≤ w8.heap.size := HB8.out.size
                  have HO8 := Lib.hid (H6.out.2.1.below HB8.out)
                  clear own8 hb8 q0 q1 q2 q3 q4
                  go_wp2_with (at_builtin; (refine app8 rfl _ _ rfl (w.heap.size + 1) _ A3 len3 cap3 (Q ++ encO C i j) rfl HO8.out B8 2 c8 _ rfl H8.out (by omega) (by omega) (by omega) ?_); intro A9 cap9 w9 hown9 hgr9 hbel9)
                  have H9 : Hid (OwnB w9 (w.heap.size + 1) A9 (len3 + 2) cap9 (P ++ encC C (i + 1)) ∧ Below (w.heap.size + 1) WB w9) := Lib.hid ⟨by rw [HQ.out, HN.out]; exact hown9, (H6.out.2.2.trans (HB8.out.mono hsz)).trans hbel9⟩
                  clear hown9 hgr9 hbel9
                  go_wp2
                  go_roundw
                  case rel => exact ⟨i + 1, len3 + 2, A9, cap9, by omega, by omega, by omega, rfl, by go_num, H9⟩
                  case measure => simp [intOf]; omega
        · have : i = m := by omega
          subst this
          go_wp2
          go_ret
          exact ⟨len2, hpos, by omega, A2', cap2, rfl, by rw [HP.out]; exact H2.out.1.mono (by omega), (KB.out wr H2.out.2).1⟩

end Go.Proofs.Ytamaeggkpdgaiaa
