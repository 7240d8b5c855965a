/- The walk of the law ExprEncodes. -/
import Derived.Test.YtamaeggkpdgaiaaEl
import Derived.Test.YtamaeggkpdgaiaaEn
import Derived.Test.YtamaeggkpdgaiaaEe
namespace Go.Proofs.Ytamaeggkpdgaiaa
open Go.RowKit

theorem encP_head (vars : Int) (n m : Nat) (L : Nat → Nat × Nat) (C : Nat → Nat → Int) : (encP vars n m L C).head? = some 86 := rfl
theorem own_heads {w : World} {b1 b2 n1 n2 c1 c2 : Nat} {A1 A2 : Option Addr} {l1 l2 : List Int} {x y : Int} (h1 : OwnB w b1 A1 n1 c1 l1) (h2 : OwnB w b2 A2 n2 c2 l2) (e1 : l1.head? = some x) (e2 : l2.head? = some y) (hne : x ≠ y) :
    (Value.slice A1 n1 c1).ownBlock = none ∨ (Value.slice A1 n1 c1).ownBlock ≠ (Value.slice A2 n2 c2).ownBlock := by
  have p1 : 0 < n1 := by have := h1.len; cases l1 with
    | nil => simp at e1
    | cons => simp at this; omega
  have p2 : 0 < n2 := by have := h2.len; cases l2 with
    | nil => simp at e2
    | cons => simp at this; omega
  obtain ⟨g1, rfl, _⟩ := h1.at' p1
  obtain ⟨g2, rfl, _⟩ := h2.at' p2
  refine Or.inr fun e => hne ?_
  simp [Value.ownBlock] at e
  subst e
  have a1 := h1.cell 0 p1
  have a2 := h2.cell 0 p2
  rw [a1] at a2
  injection a2 with a3
  injection a3 with _ a4
  have q1 : l1.getD 0 0 = x := by cases l1 with
    | nil => simp at e1
    | cons a t => simp at e1; simpa using e1
  have q2 : l2.getD 0 0 = y := by cases l2 with
    | nil => simp at e2
    | cons a t => simp at e2; simpa using e2
  rw [← q1, ← q2, a4]
theorem OwnB.set {w : World} {base g n cap : Nat} {l : List Int} (h : OwnB w base (some ⟨g, 0, none⟩) n cap l) (k : Nat) (z : Int) : OwnB (w.setCell ⟨g, k, none⟩ (.int .u8 z)) base (some ⟨g, 0, none⟩) n cap (l.set k z) := by
  have hlen := h.len
  refine ⟨by simp [hlen], ?_⟩
  rcases h.2 with ⟨h1, _⟩ | ⟨g', cp, cur, hv, hb, hg, h3, h4, h5, h6⟩
  · injection h1 with h2; cases h2
  · have e : g' = g ∧ cp = cap := by injection hv with q1 q2 q3; injection q1 with q4; injection q4 with q5; exact ⟨q5.symm, q3.symm⟩
    obtain ⟨rfl, rfl⟩ := e
    refine Or.inr ⟨g', cp, cur.setIfInBounds k (.int .u8 z), rfl, hb, heap_setAt hg, h3, h4, by simpa using h5, ?_⟩
    rw [Array.toList_setIfInBounds, List.take_set, h6]
    unfold bv
    rw [List.map_set]
theorem OwnB.set_other {w : World} {base k n cap : Nat} {A : Option Addr} {l : List Int} {v : Value} (h : OwnB w base A n cap l) (hk : k < base) (o : Nat) : OwnB (w.setCell ⟨k, o, none⟩ v) base A n cap l := ownsRow_setCell_below h hk v
theorem OwnB.frozen {w : World} {base g n cap : Nat} {l : List Int} (h : OwnB w base (some ⟨g, 0, none⟩) n cap l) (o : Nat) : w.frozen? ⟨g, o, none⟩ = false := by
  rcases h.2 with ⟨h1, _⟩ | ⟨g', cp, cur, hv, hb, hg, _⟩
  · injection h1 with h2; cases h2
  · have e : g' = g := by injection hv with q1; injection q1 with q4; injection q4 with q5; exact q5.symm
    subst e
    exact frozen_heap hg o
theorem head_set {l : List Int} (k : Nat) (z : Int) (hl : 0 < l.length) (h : 0 < k → l.head? = some z) : (l.set k z).head? = some z := by
  cases l with
  | nil => simp at hl
  | cons a t => cases k with
    | zero => rfl
    | succ k => have := h (by omega); simpa using this
theorem head_app {l m : List Int} {z : Int} (h : l.head? = some z) : (l ++ m).head? = some z := by
  cases l with
  | nil => simp at h
  | cons a t => simpa using h
theorem range_two (v : Int) : ∀ b ∈ two v, 0 ≤ b ∧ b < 256 := by intro b hb; simp [two] at hb; omega
theorem range_le (x k : Nat) : ∀ b ∈ leK x k, 0 ≤ b ∧ b < 256 := by
  intro b hb; unfold leK at hb; obtain ⟨i, _, rfl⟩ := List.mem_map.1 hb; omega
theorem range_encP (vars : Int) (n m : Nat) (L : Nat → Nat × Nat) (C : Nat → Nat → Int) : ∀ b ∈ encP vars n m L C, 0 ≤ b ∧ b < 256 := by
  intro b hb
  unfold encP encH at hb
  simp only [List.mem_append] at hb
  rcases hb with (((hb | hb) | hb) | hb) | hb
  · simp at hb; omega
  · exact range_two _ b hb
  · unfold encK at hb; obtain ⟨i, _, hb⟩ := List.mem_flatMap.1 hb
    rcases List.mem_append.1 hb with hb | hb
    · exact range_le _ _ b hb
    · exact range_le _ _ b hb
  · exact range_two _ b hb
  · unfold encC at hb; obtain ⟨i, _, hb⟩ := List.mem_flatMap.1 hb
    unfold encL at hb
    rcases List.mem_append.1 hb with hb | hb
    · simp at hb; omega
    · rcases List.mem_append.1 hb with hb | hb
      · unfold encO at hb; obtain ⟨q, _, hb⟩ := List.mem_flatMap.1 hb
        exact range_two _ b hb
      · unfold encN at hb; split at hb
        · exact range_two _ b hb
        · cases hb
theorem range_getD {l : List Int} (h : ∀ b ∈ l, 0 ≤ b ∧ b < 256) (i : Nat) : 0 ≤ l.getD i 0 ∧ l.getD i 0 < 256 := by
  by_cases hi : i < l.length
  · have : l.getD i 0 = l[i] := by simp [List.getD, List.getElem?_eq_getElem hi]
    rw [this]; exact h _ (List.getElem_mem hi)
  · have : l.getD i 0 = 0 := by simp [List.getD, List.getElem?_eq_none (by omega : l.length ≤ i)]
    rw [this]; omega

set_option maxRecDepth 100000 in
set_option maxHeartbeats 4000000 in
theorem exprEncodes_any (vars : Int) (A1 A2 : Option Addr) (n cp1 m cp2 : Nat) (L : Nat → Nat × Nat) (C : Nat → Nat → Int) (w : World) (hL : ∀ i < n, W64 (L i).1 ∧ W64 (L i).2) (hn : n * 16 ≤ 140737488351232) (hm : m * 40 ≤ 140737488351232)
    (hr : RowN w w.heap.size 2 A1 n (fU L)) (hr2 : RowN w w.heap.size 5 A2 m (fI C)) :
    Calls Try.prog 8 #[.agg #[.int .i64 vars, .slice A1 n cp1, .slice A2 m cp2]] w fun e w' => e = .returned (.bool true) ∧ Below w.heap.size w w' := by
  have HR : Hid (∀ w', Below w.heap.size w w' → RowN w' w'.heap.size 2 A1 n (fU L) ∧ RowN w' w'.heap.size 5 A2 m (fI C)) := Lib.hid (fun w' h => ⟨(hr.below h).more h.size, (hr2.below h).more h.size⟩)
  have HL := Lib.hid hL
  clear hr hr2 hL
  have KB : Hid (∀ w', Below (w.heap.size + 1) (w.alloc (.cells #[.int .i64 vars, .slice A1 n cp1, .slice A2 m cp2] 60)) w' → (Below w.heap.size w w' ∧ w'.cell? ⟨w.heap.size, 0, none⟩ = some (.int .i64 vars) ∧ w'.cell? ⟨w.heap.size, 1, none⟩ = some (.slice A1 n cp1) ∧ w'.cell? ⟨w.heap.size, 2, none⟩ = some (.slice A2 m cp2) ∧ w.heap.size < w'.heap.size)) := Lib.hid (fun w' h =>
    ⟨((Below.refl _ _).alloc (Nat.le_refl _) _).trans (h.mono (by omega)), cells_box w w' [.int .i64 vars, .slice A1 n cp1, .slice A2 m cp2] h 0 _ rfl, cells_box w w' [.int .i64 vars, .slice A1 n cp1, .slice A2 m cp2] h 1 _ rfl, cells_box w w' [.int .i64 vars, .slice A1 n cp1, .slice A2 m cp2] h 2 _ rfl, by have := h.size; simp at this; omega⟩)
  have CM : Hid (∀ w', Below w.heap.size w w' → Calls Try.prog 27 #[.agg #[.int .i64 vars, .slice A1 n cp1, .slice A2 m cp2]] w' fun e w'' => MadeP vars n m L C w' e w'') := Lib.hid (fun w' h => made_any vars A1 A2 n cp1 m cp2 L C w' hn hm (HR.out w' h).1 (HR.out w' h).2)
  have CE : Hid (∀ (w' : World) (b B1 : Nat) (D1 D2 : Option Addr) (q1 q2 : Nat), w'.ownsRow b 31 2 (.slice D1 n q1) n (flatN n 2 (fF L)) → w'.ownsRow B1 117 5 (.slice D2 m q2) m (flatN m 5 (fI C)) → Calls Try.prog 36 #[.agg #[.int .i64 vars, .slice D1 n q1, .slice D2 m q2]] w' fun e w'' => EncP vars n m L C e w' w'') :=
    Lib.hid (fun w' b B1 D1 D2 q1 q2 h1 h2 => encode_any vars D1 D2 n q1 m q2 L C w' HL.out hn hm (RowN.of_own h1) (RowN.of_own h2))
  have CK : Hid (∀ w', Below w.heap.size w w' → Calls Try.prog 28 #[.agg #[.int .i64 vars, .slice A1 n cp1, .slice A2 m cp2]] w' fun e w'' => (∃ l c, ChkP vars n m L C l c ∧ e = .returned (.tuple #[.int .i64 l, .int .i64 c])) ∧ Below w'.heap.size w' w'') := Lib.hid (fun w' h => check16_any vars A1 A2 n cp1 m cp2 L C w' HL.out hn hm (HR.out w' h).1 (HR.out w' h).2)
  have HB0 : Hid (Below w.heap.size w (w.alloc (.cells #[.int .i64 vars, .slice A1 n cp1, .slice A2 m cp2] 60))) := Lib.hid ((Below.refl _ _).alloc (Nat.le_refl _) _)
  go_enter Try.func8, Try.ntmps8
  go_wp2_with fail
  obtain ⟨WB, hWB⟩ : ∃ V : World, V = w.alloc (.cells #[.int .i64 vars, .slice A1 n cp1, .slice A2 m cp2] 60) := ⟨_, rfl⟩
  have hSB : WB.heap.size = w.heap.size + 1 := by rw [hWB]; simp
  rw [← hWB] at KB HB0 ⊢
  clear hWB
  have HSB := Lib.hid hSB
  refine (CK.out _ HB0.out).mono ?_
  rintro e1 w1 ⟨⟨l, c, hck, rfl⟩, hb1⟩
  have HCK := Lib.hid hck
  have HZ1 : Hid (Below (w.heap.size + 1) WB w1) := Lib.hid (hb1.mono (by omega))
  have hs1 : w.heap.size + 1 ≤ w1.heap.size := by have := HZ1.out.size; omega
  clear hck hb1 hSB
  obtain ⟨-, k0, k1, k2, l0⟩ := KB.out w1 HZ1.out
  go_wp2_with fail
  refine (CM.out w1 (KB.out w1 HZ1.out).1).mono ?_
  rintro e2 w2 ⟨D1, q1, D2, q2, rfl, o1, o2, hb2⟩
  have HO1 := Lib.hid o1; have HO2 := Lib.hid o2
  have HZ2 : Hid (Below (w.heap.size + 1) WB w2) := Lib.hid (HZ1.out.trans (hb2.mono hs1))
  have hs2 : w1.heap.size ≤ w2.heap.size := hb2.size
  clear o1 o2 hb2 k0 k1 k2 l0
  go_wp2_with fail
  refine (CE.out w2 _ _ D1 D2 q1 q2 HO1.out HO2.out).mono ?_
  rintro e3 w3 ⟨l', c', hck', hb3, hcase⟩
  obtain ⟨-, rfl⟩ := HCK.out.one hck'
  have HZ3 : Hid (Below (w.heap.size + 1) WB w3) := Lib.hid (HZ2.out.trans (hb3.mono (by omega)))
  have hs3 : w2.heap.size ≤ w3.heap.size := hb3.size
  rcases hcase with ⟨hcn, rfl⟩ | ⟨rfl, len, Ab, capb, hlen0, hlen1, rfl, ownb⟩
  · have hcn' : (c == 0) = false := by rw [beq_eq_false_iff_ne]; exact hcn
    have hcn2 : (c != 0) = true := by simpa using hcn
    clear hb3 hck' HO1 HO2
    go_wp2
    go_ret
    exact ⟨ret_bool (by simp), (KB.out w3 HZ3.out).1⟩
  · obtain ⟨p1, p2, p3, p4, p5, p6, p7, p8⟩ := ok_parts HCK.out
    have CD : Hid (∀ (w' : World) (b cap base : Nat), OwnB w' base (some ⟨b, 0, none⟩) len cap (encP vars n m L C) → Calls Try.prog 39 #[.slice (some ⟨b, 0, none⟩) len cap] w' fun e w'' => DecP vars n m L C e w' w'') := Lib.hid (fun w' b cap base h => by
      have hl := h.len
      have hcap : len ≤ cap := by
        rcases h.2 with ⟨h1, _⟩ | ⟨g', cp, cur, hv, hb, hg, h3, _⟩
        · injection h1 with h2; cases h2
        · injection hv with q1 q2 q3; rw [q3]; exact h3
      obtain ⟨g', hg, _, hg2, _⟩ := h.at' hlen0
      have hgb : g' = b := by injection hg with q; injection q with q2; exact q2.symm
      subst hgb
      exact decode_any g' len cap n m vars L C (encP vars n m L C) w' hl hcap (by omega) (fun i hi => by have := h.cell i hi; rwa [Nat.zero_add] at this) hg2 (range_getD (range_encP vars n m L C)) rfl HL.out ⟨p1, p2⟩ p3 ⟨p5, p6⟩ p4 (fun i hi => line_ok (p7 i hi)))
    have CX : Hid (∀ w', Below w.heap.size w w' → Calls Try.prog 37 #[.agg #[.int .i64 vars, .slice A1 n cp1, .slice A2 m cp2]] w' fun e w'' => ∃ len, 0 < len ∧ len ≤ 20000 ∧ NewB len (encP vars n m L C) e w' w'') := Lib.hid (fun w' h => encode16_any vars A1 A2 n cp1 m cp2 L C w' HL.out p3 p6 p8 (HR.out w' h).1 (HR.out w' h).2)
    have hn256 := p3; have hm1024 := p6
    clear p1 p2 p3 p4 p5 p6 p7 p8 hck' hb3
    have HBb := Lib.hid ownb; clear ownb
    obtain ⟨-, k0, k1, k2, l0⟩ := KB.out w3 HZ3.out
    go_wp2_with fail
    refine (CX.out w3 (KB.out w3 HZ3.out).1).mono ?_
    rintro e4 w4 ⟨len', hp', hl', Aw, capw, rfl, ownw, hb4⟩
    have hlw : len' = len := by have a := ownw.len; have b := HBb.out.len; omega
    subst hlw
    have HBb4 := Lib.hid (HBb.out.below hb4)
    have HBw := Lib.hid ownw
    have HZ4 : Hid (Below (w.heap.size + 1) WB w4) := Lib.hid (HZ3.out.trans (hb4.mono (by omega)))
    have hs4 : w3.heap.size ≤ w4.heap.size := hb4.size
    obtain ⟨g, rfl, hg1, hg2, -⟩ := HBb.out.at' hlen0
    clear ownw hb4 k0 k1 k2 l0
    go_wp2_with fail
    refine (same_any (some ⟨g, 0, none⟩) Aw len' capb capw _ _ (encP vars n m L C) w4 hlen0 HBb4.out HBw.out).mono ?_
    rintro e5 w5 ⟨rfl, rfl⟩
    go_wp2
    go_loopw [8] (fun iv wr => ∃ k : Nat, k ≤ len' ∧ iv = .int .i64 (k : Int) ∧ Hid (Below (w.heap.size + 1) WB wr ∧ OwnB wr w3.heap.size Aw len' capw (encP vars n m L C) ∧ ∃ lb, OwnB wr w2.heap.size (some ⟨g, 0, none⟩) len' capb lb ∧ (0 < k → lb.head? = some 77))) (fun iv _ => len' - (intOf iv).toNat)
    case atStart => exact ⟨0, by omega, rfl, Lib.hid ⟨HZ4.out, HBw.out, _, HBb4.out, fun h => absurd h (by omega)⟩⟩
    case round =>
      obtain ⟨k, hk, rfl, H⟩ := hrel
      obtain ⟨hz, how, lb, hob, hhd⟩ := H.out
      have HZ := Lib.hid hz; have HW := Lib.hid how; have HB := Lib.hid hob; have HD := Lib.hid hhd
      clear hz how hhd
      by_cases hlt : k < len'
      · have hlt' : (k : Int) < (len' : Int) := by omega
        have ck := hob.cell k hlt
        rw [Nat.zero_add] at ck
        have fk := hob.frozen k
        obtain ⟨g0, hg0, _, hgl, _⟩ := hob.at' hlen0
        have hgg : g0 = g := by injection hg0 with q; injection q with q2; exact q2.symm
        subst hgg
        have H9 : Hid (Below (w.heap.size + 1) WB (wr.setCell ⟨g0, k, none⟩ (.int .u8 77)) ∧ OwnB (wr.setCell ⟨g0, k, none⟩ (.int .u8 77)) w3.heap.size Aw len' capw (encP vars n m L C) ∧ ∃ lb', OwnB (wr.setCell ⟨g0, k, none⟩ (.int .u8 77)) w2.heap.size (some ⟨g0, 0, none⟩) len' capb lb' ∧ (0 < k + 1 → lb'.head? = some 77)) :=
          Lib.hid ⟨HZ.out.setCell (by simp; omega) _, HW.out.set_other hg2 _, lb.set k 77, HB.out.set k 77, fun _ => head_set k 77 (by rw [HB.out.len]; omega) HD.out⟩
        clear hob hg0
        go_wp2
        go_roundw
        case rel => exact ⟨k + 1, by omega, by go_num, H9⟩
        case measure => simp [intOf]; omega
      · have hkl : k = len' := by omega
        subst hkl
        have H2 : Hid (Below (w.heap.size + 1) WB wr ∧ OwnB wr w3.heap.size Aw k capw (encP vars n m L C) ∧ OwnB wr (w.heap.size + 1) (some ⟨g, 0, none⟩) k capb lb ∧ lb.head? = some 77) := Lib.hid ⟨HZ.out, HW.out, HB.out.mono (by omega), HD.out hlen0⟩
        clear hob
        go_wp2
        go_loopw [5, 9] (fun bv iv wr => ∃ (j ln : Nat) (A : Option Addr) (cap : Nat), j ≤ 40 ∧ ln ≤ 20000 + j ∧ bv = .slice A ln cap ∧ iv = .int .i64 (j : Int) ∧ Hid (Below (w.heap.size + 1) WB wr ∧ OwnB wr w3.heap.size Aw k capw (encP vars n m L C) ∧ ∃ lb, OwnB wr (w.heap.size + 1) A ln cap lb ∧ lb.head? = some 77)) (fun _ iv _ => 40 - (intOf iv).toNat)
        case atStart => exact ⟨0, k, _, _, by omega, by omega, rfl, rfl, Lib.hid ⟨H2.out.1, H2.out.2.1, lb, H2.out.2.2⟩⟩
        case round =>
          obtain ⟨j, ln, A, cap, hj, hln, rfl, rfl, H3⟩ := hrel
          obtain ⟨hz, how, lb3, hob, hhd⟩ := H3.out
          have HZ := Lib.hid hz; have HW := Lib.hid how; have HB := Lib.hid hob; have HD := Lib.hid hhd
          have hsr : w.heap.size + 1 ≤ wr.heap.size := by have := hz.size; have := HSB.out; omega
          clear hz how hob hhd
          by_cases hj40 : j < 40
          · have hj40' : (j : Int) < 40 := by omega
            go_wp2_with (at_builtin; (refine app8 rfl _ _ rfl (w.heap.size + 1) _ A ln cap lb3 rfl (HB.out.alloc _) (some ⟨wr.heap.size, 0, none⟩) 1 1 [78] rfl (own_lit wr _ [78] (Nat.le_refl _) (by simp)) (by omega) (by omega) (by simp; omega) ?_); intro A9 cap9 w9 hown9 hgr9 hbel9)
            have H9 : Hid (Below (w.heap.size + 1) WB w9 ∧ OwnB w9 w3.heap.size Aw k capw (encP vars n m L C) ∧ ∃ lb, OwnB w9 (w.heap.size + 1) A9 (ln + 1) cap9 lb ∧ lb.head? = some 77) := Lib.hid ⟨(HZ.out.alloc hsr _).trans hbel9, World.ownsRow.kept (HW.out.alloc _) hgr9 (own_heads HW.out HB.out (encP_head vars n m L C) HD.out (by decide)), _, hown9, head_app HD.out⟩
            clear hown9 hgr9 hbel9
            go_wp2
            go_roundw
            case rel => exact ⟨j + 1, ln + 1, A9, cap9, by omega, by omega, rfl, by go_num, H9⟩
            case measure => simp [intOf]; omega
          · have hj40' : j = 40 := by omega
            subst hj40'
            obtain ⟨hBW, k0, k1, k2, l0⟩ := KB.out wr HZ.out
            have HBW := Lib.hid hBW; clear hBW
            go_wp2_with fail
            refine (CM.out wr HBW.out).mono ?_
            rintro e6 w6 ⟨D3, q3, D4, q4, rfl, o1, o2, hb6⟩
            have HO3 := Lib.hid o1; have HO4 := Lib.hid o2
            have HZ6 : Hid (Below (w.heap.size + 1) WB w6) := Lib.hid (HZ.out.trans (hb6.mono hsr))
            have HW6 := Lib.hid (HW.out.below hb6)
            have hs6 : wr.heap.size ≤ w6.heap.size := hb6.size
            clear o1 o2 hb6 k0 k1 k2 l0
            go_wp2_with fail
            refine (CE.out w6 _ _ D3 D4 q3 q4 HO3.out HO4.out).mono ?_
            rintro e7 w7 ⟨l7, c7, hck7, hb7, hcase7⟩
            obtain ⟨-, rfl⟩ := HCK.out.one hck7
            have HZ7 : Hid (Below (w.heap.size + 1) WB w7) := Lib.hid (HZ6.out.trans (hb7.mono (by omega)))
            have HW7 := Lib.hid (HW6.out.below hb7)
            have hs7 : w6.heap.size ≤ w7.heap.size := hb7.size
            rcases hcase7 with ⟨hcn, -⟩ | ⟨-, len7, Ac, capc, -, -, rfl, ownc⟩
            · exact absurd rfl hcn
            have hlc : len7 = k := by have a := ownc.len; have b := HW.out.len; omega
            subst hlc
            have HC := Lib.hid ownc
            obtain ⟨gc, rfl, _, hgc, _⟩ := ownc.at' hlen0
            clear ownc hb7 hck7
            go_wp2_with fail
            refine (same_any (some ⟨gc, 0, none⟩) Aw len7 capc capw _ _ (encP vars n m L C) w7 hlen0 HC.out HW7.out).mono ?_
            rintro e8 w8 ⟨rfl, rfl⟩
            go_wp2_with fail
            refine (CD.out w7 gc capc _ HC.out).mono ?_
            rintro e9 w9 ⟨E1, x1, E2, x2, rfl, oc1, oc2, hb9⟩
            have HZ9 : Hid (Below (w.heap.size + 1) WB w9) := Lib.hid (HZ7.out.trans (hb9.mono (by omega)))
            have hs9 : w7.heap.size ≤ w9.heap.size := hb9.size
            have HX1 := Lib.hid oc1; have HX2 := Lib.hid oc2
            clear oc1 oc2 hb9
            obtain ⟨V, hV⟩ : ∃ V : World, V = w9.alloc (.cells #[.int .i64 vars, .slice E1 n x1, .slice E2 m x2] 67) := ⟨_, rfl⟩
            have hsV : V.heap.size = w9.heap.size + 1 := by rw [hV]; simp
            have HSV := Lib.hid hsV
            have HVZ : Hid (Below (w.heap.size + 1) WB V) := Lib.hid (by rw [hV]; exact HZ9.out.alloc (by omega) _)
            have HX1' := Lib.hid (show V.ownsRow _ _ _ _ _ _ from hV ▸ World.ownsRow.alloc HX1.out _)
            have HX2' := Lib.hid (show V.ownsRow _ _ _ _ _ _ from hV ▸ World.ownsRow.alloc HX2.out _)
            have KV : Hid (∀ w', Below V.heap.size V w' → (Below V.heap.size V w' ∧ w'.cell? ⟨w.heap.size, 0, none⟩ = some (.int .i64 vars) ∧ w'.cell? ⟨w.heap.size, 1, none⟩ = some (.slice A1 n cp1) ∧ w'.cell? ⟨w.heap.size, 2, none⟩ = some (.slice A2 m cp2) ∧ w'.cell? ⟨w9.heap.size, 0, none⟩ = some (.int .i64 vars) ∧ w'.cell? ⟨w9.heap.size, 1, none⟩ = some (.slice E1 n x1) ∧ w'.cell? ⟨w9.heap.size, 2, none⟩ = some (.slice E2 m x2))) := Lib.hid (fun w' h => by
              obtain ⟨-, a0, a1, a2, -⟩ := KB.out w' (HVZ.out.trans (h.mono (by omega)))
              have h2 : Below (w9.heap.size + 1) (w9.alloc (.cells [.int .i64 vars, .slice E1 n x1, .slice E2 m x2].toArray 67)) w' := by rw [← hsV]; exact (show V = _ from hV) ▸ h
              exact ⟨h, a0, a1, a2, cells_box w9 w' _ h2 0 _ rfl, cells_box w9 w' _ h2 1 _ rfl, cells_box w9 w' _ h2 2 _ rfl⟩)
            have CRd : Hid (∀ w', Below V.heap.size V w' → Calls Try.prog 41 #[.agg #[.int .i64 vars, .slice E1 n x1, .slice E2 m x2]] w' fun e w'' => Back.MadeP vars n m L C w' e w'') := Lib.hid (fun w' h => Back.made_any vars E1 E2 n x1 m x2 L C w' hn hm (RowN.of_own (own_below HX1'.out h)) (RowN.of_own (own_below HX2'.out h)))
            have CQ : Hid (∀ (w' : World) (F1 F2 : Option Addr) (y1 y2 B1 B2 : Nat), Below V.heap.size V w' → w'.ownsRow B1 27 2 (.slice F1 n y1) n (flatN n 2 (fU L)) → w'.ownsRow B2 120 5 (.slice F2 m y2) m (flatN m 5 (fI C)) → Calls Try.prog 40 #[.agg #[.int .i64 vars, .slice F1 n y1, .slice F2 m y2], .agg #[.int .i64 vars, .slice A1 n cp1, .slice A2 m cp2]] w' fun e w'' => e = .returned (.bool true) ∧ Below w'.heap.size w' w'') := Lib.hid (fun w' F1 F2 y1 y2 B1 B2 h f1 f2 =>
              have hbw := (KB.out w' (HVZ.out.trans (h.mono (by omega)))).1
              equal16_any vars F1 F2 A1 A2 n m y1 y2 cp1 cp2 L C w' hn256 hm1024 (RowN.of_own f1) (HR.out w' hbw).1 (RowN.of_own f2) (HR.out w' hbw).2)
            have kk := KV.out V.drew (Below.refl _ _).drew
            have hVs : V.heap.size ≤ V.drew.heap.size := by simp
            clear hsV
            go_wp2_with fail
            rw [← hV]
            clear hV
            go_region_held3 (fun w' => (Below V.heap.size V w' ∧ w'.cell? ⟨w.heap.size, 0, none⟩ = some (.int .i64 vars) ∧ w'.cell? ⟨w.heap.size, 1, none⟩ = some (.slice A1 n cp1) ∧ w'.cell? ⟨w.heap.size, 2, none⟩ = some (.slice A2 m cp2) ∧ w'.cell? ⟨w9.heap.size, 0, none⟩ = some (.int .i64 vars) ∧ w'.cell? ⟨w9.heap.size, 1, none⟩ = some (.slice E1 n x1) ∧ w'.cell? ⟨w9.heap.size, 2, none⟩ = some (.slice E2 m x2)))
              (first | with_reducible assumption | exact kk12 | exact kk13)
              (first
                | (go_at_call 41; (with_reducible refine (CRd.out V.drew kk.1).mono ?_); rintro e12 w12 ⟨F1, y1, F2, y2, rfl, f1, f2, hb12⟩; have kk12 := KV.out w12 (kk.1.trans (hb12.mono hVs)); have hs12 := hb12.size)
                | (go_at_call 40; (with_reducible refine (CQ.out w12 F1 F2 y1 y2 _ _ kk12.1 f1 f2).mono ?_); rintro e13 w13 ⟨rfl, hb13⟩; have kk13 := KV.out w13 (kk12.1.trans (hb13.mono (by omega)))))
            all_goals
              have HFIN : Hid (Below w.heap.size w w13) := Lib.hid (KB.out w13 (HVZ.out.trans (kk13.1.mono (by have := HSV.out; omega)))).1
              clear kk kk12 kk13 f1 f2 hb12 hb13
              go_wp2
              go_ret
              exact ⟨rfl, HFIN.out⟩

end Go.Proofs.Ytamaeggkpdgaiaa
