/- The walk of the reader's program. -/
import Derived.Test.YtamaeggkpdgaiaaEj
import Derived.BigQuiet
import Derived.Deep.AppendLies
namespace Go.Proofs.Ytamaeggkpdgaiaa
open Go.RowKit

theorem step_own {P : Program} {ops : Array Oper} {o : Oper} {a : Act} {K : Act → World → Prop} {Q : Exit → Act → World → Prop} {E : Prop} {w : World} (hgd : o.guard = none) (s x : Operand) (t : TypeId) (ho : o.op = .call { callee := .builtin .append, args := #[s, x], argTypes := #[t, t] })
    (base : Nat) (e : TypeId) (i : TypeInfo) (z : Value) (size bytes : Nat) (ht : P.underlying t = some (.slice e)) (hi : P.info? e = some i) (hz : i.zero = some z)
    (hsize : i.size = size) (hby : i.bytes = bytes) (hzs : z.cells.size = size) (hsz : 0 < size)
    (v : Value) (n : Nat) (xs : List Value) (hs : a.eval s = v) (hown : w.ownsRow base e size v n xs)
    (ad : Addr) (m c : Nat) (news : List Value) (hx : a.eval x = .slice (some ad) m c) (hl : news.length = m * size) (hnews : ∀ j u, news[j]? = some u → w.cell? (ad.add j) = some u) (h1 : ∀ u ∈ news, u.oneCell' = true)
    (h63 : n + m ≤ maxLen) (hbytes : (n + m) * bytes ≤ 140737488355328) (hbase : base ≤ w.heap.size)
    (h : ∀ A' cap' w', w'.ownsRow base e size (.slice A' (n + m) cap') (n + m) (xs ++ news) → w.grownBy w' v.ownBlock → Below base w w' → K (a.put o.dst (.slice A' (n + m) cap')) w') :
    if Region.wanted o (yielded ops a.tmps) = true then Oper.wp P o a w K Q else E := by
  have hw : Region.wanted o (yielded ops a.tmps) = true := by simp [Region.wanted, hgd]
  rw [if_pos hw]
  refine wp_append_own w s x t ho base e i z size bytes ht hi hz hsize hby hzs hsz v n xs hs hown ad m c news hx hl hnews h1 h63 hbytes hbase ?_
  intro v' w' h1 h2 h3
  obtain ⟨A', cap', rfl⟩ := own_form h1
  exact h A' cap' w' h1 h2 ((Below.refl base w).grown h2 hbase (fun k hk => own_block hown hk))

theorem RdAt.belowB {w w' : World} {g b N cap p B : Nat} {l : List Int} (h : RdAt w g b N cap l p) (hb : Below B w w') (hg : g < B) (hbb : b < B) : RdAt w' g b N cap l p :=
  ⟨(hb.block g hg).trans h.heap, h.len, h.cap, h.small, fun i hi => (hb.cell (p := ⟨b, i, none⟩) hbb).trans (h.byte i hi), Nat.lt_of_lt_of_le h.lt hb.size, h.ne⟩
theorem grown_belowB {w w' w'' : World} {r : Option Nat} {B : Nat} (h : w.grownBy w' r) (hb : Below B w' w'') (hB : w.heap.size ≤ B) : w.grownBy w'' r :=
  ⟨hb.os.trans h.os, hb.tape.trans h.tape, hb.output.trans h.output, Nat.le_trans h.size hb.size, fun k hk hne => (hb.block k (by omega)).trans (h.block k hk hne)⟩

theorem own_kept {w w' : World} {base e c n g : Nat} {v : Value} {xs : List Value} (h : w.ownsRow base e c v n xs) (hg : w.grownBy w' (some g)) (hlt : g < base) : w'.ownsRow base e c v n xs := by
  refine World.ownsRow.kept h hg ?_
  cases hv : v.ownBlock with
  | none => exact Or.inl rfl
  | some k => exact Or.inr (by intro e; injection e with e; have := own_block h hv; omega)
theorem own_drew {w : World} {base e c n : Nat} {v : Value} {xs : List Value} (h : w.ownsRow base e c v n xs) : w.drew.ownsRow base e c v n xs := own_below h (Below.refl _ _).drew

theorem own_apart {w : World} {base e1 e2 c1 c2 n1 n2 : Nat} {v1 v2 : Value} {xs1 xs2 : List Value} (h1 : w.ownsRow base e1 c1 v1 n1 xs1) (h2 : w.ownsRow base e2 c2 v2 n2 xs2) (hne : e1 ≠ e2) : v1.ownBlock = none ∨ v1.ownBlock ≠ v2.ownBlock := by
  rcases h1.2 with ⟨rfl, _⟩ | ⟨g1, cp1, cur1, rfl, _, hg1, _⟩
  · exact Or.inl rfl
  · refine Or.inr fun e => ?_
    rcases h2.2 with ⟨rfl, _⟩ | ⟨g2, cp2, cur2, rfl, _, hg2, _⟩
    · simp [Value.ownBlock] at e
    · simp [Value.ownBlock] at e
      subst e
      rw [hg1] at hg2
      injection hg2 with h3
      injection h3 with _ h4
      exact hne h4

/-- What program answers. -/
def PrgP (g : Nat) (vars : Int) (n m : Nat) (L : Nat → Nat × Nat) (C : Nat → Nat → Int) (e : Ending) (w w' : World) : Prop :=
  ∃ A1 cp1 A2 cp2, e = .returned (.agg #[.int .i64 vars, .slice A1 n cp1, .slice A2 m cp2]) ∧ w'.ownsRow (w.heap.size + 1) 31 2 (.slice A1 n cp1) n (flatN n 2 (fF L)) ∧
    w'.ownsRow (w.heap.size + 1) 117 5 (.slice A2 m cp2) m (flatN m 5 (fI C)) ∧ w.grownBy w' (some g)

theorem leK_length (x k : Nat) : (leK x k).length = k := by unfold leK; simp
theorem leK_get (x k i : Nat) (h : i < k) : (leK x k)[i]? = some ((x / 256 ^ i % 256 : Nat) : Int) := by unfold leK; simp [List.getElem?_range h]
theorem encK_length (L : Nat → Nat × Nat) (n : Nat) : (encK L n).length = 16 * n := by
  induction n with
  | zero => rfl
  | succ n ih => rw [encK_succ, List.length_append, ih, List.length_append, leK_length, leK_length]; omega
theorem HasL.encK {l : List Int} {p n : Nat} {L : Nat → Nat × Nat} (h : HasL l p (encK L n)) (k : Nat) (hk : k < n) : Has16 l (p + 16 * k) (L k).1 (L k).2 := by
  induction n with
  | zero => omega
  | succ n ih =>
    rw [encK_succ] at h
    rcases Nat.lt_or_ge k n with hl | hl
    · exact ih h.left hl
    · have : k = n := by omega
      subst this
      have h2 := h.right
      rw [encK_length] at h2
      have h3 := h2.right
      rw [leK_length] at h3
      exact ⟨fun i hi => h2.left i _ (leK_get _ _ _ hi), fun i hi => h3 i _ (leK_get _ _ _ hi)⟩
theorem HasL.encC {l : List Int} {p m : Nat} {C : Nat → Nat → Int} (h : HasL l p (encC C m)) (k : Nat) (hk : k < m) : HasL l (p + (Proofs.Ytamaeggkpdgaiaa.encC C k).length) (encL C k) := by
  induction m with
  | zero => omega
  | succ m ih =>
    rw [encC_succ] at h
    rcases Nat.lt_or_ge k m with hl | hl
    · exact ih h.left hl
    · have : k = m := by omega
      subst this
      exact h.right
theorem encC_le (C : Nat → Nat → Int) (k m : Nat) (h : k ≤ m) : (encC C k).length ≤ (encC C m).length := by
  induction m with
  | zero => have : k = 0 := by omega
            subst this; exact Nat.le_refl _
  | succ m ih =>
    rcases Nat.lt_or_ge k (m + 1) with hl | hl
    · have := ih (by omega); rw [encC_succ, List.length_append]; omega
    · have : k = m + 1 := by omega
      subst this; exact Nat.le_refl _

set_option maxRecDepth 100000 in
set_option maxHeartbeats 4000000 in
theorem program_any (g b N cap n m : Nat) (vars : Int) (L : Nat → Nat × Nat) (C : Nat → Nat → Int) (l : List Int) (w : World) (hr : RdAt w g b N cap l 0) (hb : ∀ i, 0 ≤ l.getD i 0 ∧ l.getD i 0 < 256) (hl : l = encP vars n m L C)
    (hL : ∀ i < n, W64 (L i).1 ∧ W64 (L i).2) (hv : 0 ≤ vars ∧ vars ≤ 32) (hn : n ≤ 256) (hm : 0 < m ∧ m ≤ 1024) (hval : ∀ i < n, validD (L i).1 (L i).2 = true) (hok : ∀ i < m, LineOk vars n i C) :
    Calls Try.prog 82 #[.pointer (some ⟨g, 0, none⟩)] w fun e w' => PrgP g vars n m L C e w w' := by
  have hall : HasL l 0 ((([86, 71, 1, vars % 256] ++ two (n : Int)) ++ encK L n) ++ two (m : Int) ++ encC C m) := by have := HasL.all l; rw [hl] at this ⊢; exact this
  have hlenN : N = 8 + 16 * n + (encC C m).length := by
    have := hr.len
    rw [← this, hl]
    unfold encP encH
    simp only [List.length_append, encK_length, List.length_cons, List.length_nil, two]
    omega
  have h0 : HasL l 0 [86, 71, 1, vars % 256] := hall.left.left.left.left
  have h4 : HasL l 4 (two (n : Int)) := hall.left.left.left.right
  have h6 : HasL l 6 (encK L n) := hall.left.left.right
  have h7 : HasL l (6 + 16 * n) (two (m : Int)) := by
    have := hall.left.right
    rw [List.length_append, encK_length] at this
    simpa [two] using this
  have h8 : HasL l (8 + 16 * n) (encC C m) := by
    have := hall.right
    simp only [List.length_append, encK_length, List.length_cons, List.length_nil, two] at this
    rwa [show 0 + (0 + 1 + 1 + 1 + 1 + (0 + 1 + 1) + 16 * n + (0 + 1 + 1)) = 8 + 16 * n from by omega] at this
  have RB : Hid (∀ k w', k < 3 → RdAt w' g b N cap l k → Calls Try.prog 120 #[.pointer (some ⟨g, 0, none⟩), .int .i64 1, .int .i64 (if k = 0 then 86 else if k = 1 then 71 else 1), .int .i64 (if k = 0 then 86 else if k = 1 then 71 else 1)] w' fun e w'' => (∃ v, e = .returned v) ∧ w'.grownBy w'' (some g) ∧ RdAt w'' g b N cap l (k + 1)) := Lib.hid (fun k w' hk h => by
    have e : ∀ lo : Int, 0 ≤ lo → sigV lo (rawV l k 1) = (if k = 0 then 86 else if k = 1 then 71 else 1) := by
      intro lo hlo
      unfold sigV rawV; rw [if_pos rfl, if_neg (by omega)]
      have : k = 0 ∨ k = 1 ∨ k = 2 := by omega
      rcases this with rfl | rfl | rfl
      · exact h0 0 _ rfl
      · exact h0 1 _ rfl
      · exact h0 2 _ rfl
    have hpos : (0 : Int) ≤ (if k = 0 then 86 else if k = 1 then 71 else 1) := by split <;> (try split) <;> omega
    have := readN_any g b N cap k 1 l _ _ w' h hb (by omega) (Or.inl rfl) (Int.le_of_eq (e _ hpos).symm) (Int.le_of_eq (e _ hpos))
    exact this.mono fun e w'' ⟨h1, h2, h3⟩ => ⟨⟨_, h1⟩, h2, h3⟩)
  have RV : Hid (∀ w', RdAt w' g b N cap l 3 → Calls Try.prog 120 #[.pointer (some ⟨g, 0, none⟩), .int .i64 1, .int .i64 0, .int .i64 32] w' fun e w'' => e = .returned (.int .i64 vars) ∧ w'.grownBy w'' (some g) ∧ RdAt w'' g b N cap l 4) := Lib.hid (fun w' h => by
    have e : sigV 0 (rawV l 3 1) = vars := by
      have := h0 3 _ rfl
      unfold sigV rawV; rw [if_pos rfl, if_neg (by omega)]
      rw [Nat.zero_add] at this; omega
    have := readN_any g b N cap 3 1 l 0 32 w' h hb (by omega) (Or.inl rfl) (by rw [e]; omega) (by rw [e]; omega)
    rw [e] at this; exact this)
  have RNn : Hid (∀ w', RdAt w' g b N cap l 4 → Calls Try.prog 120 #[.pointer (some ⟨g, 0, none⟩), .int .i64 2, .int .i64 0, .int .i64 256] w' fun e w'' => e = .returned (.int .i64 (n : Int)) ∧ w'.grownBy w'' (some g) ∧ RdAt w'' g b N cap l (6 + 16 * 0)) := Lib.hid (fun w' h => by
    have e : sigV 0 (rawV l 4 2) = (n : Int) := by rw [h4.two]; exact sig_pos _ ⟨by omega, by omega⟩
    have := readN_any g b N cap 4 2 l 0 256 w' h hb (by omega) (Or.inr rfl) (by rw [e]; omega) (by rw [e]; omega)
    rw [e] at this; exact this)
  have RNm : Hid (∀ w', RdAt w' g b N cap l (6 + 16 * n) → Calls Try.prog 120 #[.pointer (some ⟨g, 0, none⟩), .int .i64 2, .int .i64 1, .int .i64 1024] w' fun e w'' => e = .returned (.int .i64 (m : Int)) ∧ w'.grownBy w'' (some g) ∧ RdAt w'' g b N cap l (8 + 16 * n + (encC C 0).length)) := Lib.hid (fun w' h => by
    have e : sigV 1 (rawV l (6 + 16 * n) 2) = (m : Int) := by rw [h7.two]; unfold sigV; rw [if_neg (by omega)]; omega
    have := readN_any g b N cap (6 + 16 * n) 2 l 1 1024 w' h hb (by omega) (Or.inr rfl) (by rw [e]; omega) (by rw [e]; omega)
    rw [e, show 6 + 16 * n + 2 = 8 + 16 * n + (encC C 0).length from by rw [show encC C 0 = [] from rfl]; simp; omega] at this; exact this)
  have RC : Hid (∀ k w', k < n → RdAt w' g b N cap l (6 + 16 * k) → Calls Try.prog 121 #[.pointer (some ⟨g, 0, none⟩)] w' fun e w'' => e = .returned (.agg #[.float .f64 (L k).1, .float .f64 (L k).2]) ∧ w'.grownBy w'' (some g) ∧ RdAt w'' g b N cap l (6 + 16 * (k + 1))) := Lib.hid (fun k w' hk h =>
    constant_any g b N cap (6 + 16 * k) _ _ l w' h (by omega) (hL k hk).1 (hL k hk).2 (hval k hk) (h6.encK k hk))
  have RL : Hid (∀ i w' A1 A2 c1 c2, i < m → RdAt w' g b N cap l (8 + 16 * n + (encC C i).length) → Calls Try.prog 122 #[.pointer (some ⟨g, 0, none⟩), .agg #[.int .i64 vars, .slice A1 n c1, .slice A2 i c2]] w' fun e w'' => e = .returned (.agg #[.int .i64 (C i 0), .int .i64 (C i 1), .int .i64 (C i 2), .int .i64 (C i 3), .int .i64 (C i 4)]) ∧ w'.grownBy w'' (some g) ∧ RdAt w'' g b N cap l (8 + 16 * n + (encC C (i + 1)).length)) := Lib.hid (fun i w' A1 A2 c1 c2 hi h => by
    have hle := encC_le C (i + 1) m (by omega)
    rw [encC_succ, List.length_append] at hle
    have := line_any g b N cap (8 + 16 * n + (encC C i).length) i n c1 c2 A1 A2 vars C l w' h hb (by omega) (h8.encC i hi) (hok i hi) hv hn (by omega)
    rw [show 8 + 16 * n + (encC C i).length + (encL C i).length = 8 + 16 * n + (encC C (i + 1)).length from by rw [encC_succ, List.length_append]; omega] at this
    exact this)
  have HR := Lib.hid hr
  have HLN := Lib.hid hlenN
  have hg := heap_lt hr.heap
  have hbl := hr.lt
  have hne := hr.ne
  clear hall hlenN h0 h4 h6 h7 h8 hl hL hval hok hr hb
  go_enter Try.func82, Try.ntmps82
  have HI : Hid (w.grownBy (w.alloc (.cells #[.int .i64 0, .slice none 0 0, .slice none 0 0] 67)) (some g) ∧ RdAt (w.alloc (.cells #[.int .i64 0, .slice none 0 0, .slice none 0 0] 67)) g b N cap l 0 ∧ (w.alloc (.cells #[.int .i64 0, .slice none 0 0, .slice none 0 0] 67)).heap[w.heap.size]? = some (.cells #[.int .i64 0, .slice none 0 0, .slice none 0 0] 67 (0, 0))) := Lib.hid ⟨World.grownBy_alloc _ _ _, HR.out.alloc _, heap_alloc_new w _⟩
  have ix0 : ∀ w : World, (Instr.index 145 (.agg #[.int .i64 86, .int .i64 71, .int .i64 1]) (.int .i64 0)).run Try.prog w = .ok (.int .i64 86) w := fun _ => by kernel_rfl
  have ix1 : ∀ w : World, (Instr.index 145 (.agg #[.int .i64 86, .int .i64 71, .int .i64 1]) (.int .i64 1)).run Try.prog w = .ok (.int .i64 71) w := fun _ => by kernel_rfl
  have ix2 : ∀ w : World, (Instr.index 145 (.agg #[.int .i64 86, .int .i64 71, .int .i64 1]) (.int .i64 2)).run Try.prog w = .ok (.int .i64 1) w := fun _ => by kernel_rfl
  go_wp2_with fail
  go_loopw [6] (fun iv wr => ∃ k : Nat, k ≤ 3 ∧ iv = .int .i64 (k : Int) ∧ Hid (w.grownBy wr (some g) ∧ RdAt wr g b N cap l k ∧ wr.heap[w.heap.size]? = some (.cells #[.int .i64 0, .slice none 0 0, .slice none 0 0] 67 (0, 0)))) (fun iv _ => 3 - (intOf iv).toNat)
  case atStart => exact ⟨0, by omega, rfl, HI⟩
  case round =>
    obtain ⟨k, hk, rfl, H⟩ := hrel
    by_cases hk3 : k < 3
    · have hB := Lib.hid (RB.out k wr hk3 H.out.2.1)
      have hcase : k = 0 ∨ k = 1 ∨ k = 2 := by omega
      rcases hcase with rfl | rfl | rfl
      all_goals
        go_wp2_with fail
        refine hB.out.mono ?_
        rintro e1 w1 ⟨⟨v1, rfl⟩, hg1, hr1⟩
        have H9 : Hid (w.grownBy w1 (some g) ∧ RdAt w1 g b N cap l _ ∧ w1.heap[w.heap.size]? = some (.cells #[.int .i64 0, .slice none 0 0, .slice none 0 0] 67 (0, 0))) := Lib.hid ⟨grown_trans H.out.1 hg1, hr1, grown_heap hg1 H.out.2.2 (by omega)⟩
        clear hg1 hr1
        go_wp2
        go_roundw
        case rel => first | exact ⟨1, by omega, rfl, H9⟩ | exact ⟨2, by omega, rfl, H9⟩ | exact ⟨3, by omega, rfl, H9⟩
        case measure => simp [intOf]
    · have hk3' : k = 3 := by omega
      subst hk3'
      go_wp2_with fail
      refine (RV.out wr H.out.2.1).mono ?_
      rintro e1 w1 ⟨rfl, hg1, hr1⟩
      have hS1 := grown_heap hg1 H.out.2.2 (by omega)
      have G1 := Lib.hid (grown_trans H.out.1 hg1)
      have HR1 := Lib.hid hr1
      have HS1 := Lib.hid hS1
      have k0 := cell_heap (cs := [.int .i64 0, .slice none 0 0, .slice none 0 0]) hS1 0 _ rfl
      have f0 := frozen_heap hS1 0
      have hz1 := heap_lt hS1
      clear hg1 hr1 hS1
      go_wp2_with fail
      have R2 : Hid (RdAt (w1.setCell ⟨w.heap.size, 0, none⟩ (.int .i64 vars)) g b N cap l 4) := Lib.hid (HR1.out.set (by omega) (by omega) _ _)
      refine (RNn.out _ R2.out).mono ?_
      rintro e2 w2 ⟨rfl, hg2, hr2⟩
      have hS2 : w2.heap[w.heap.size]? = some (.cells #[.int .i64 vars, .slice none 0 0, .slice none 0 0] 67 (0, 0)) := grown_heap hg2 (by have := heap_setAt (o := 0) (v := .int .i64 vars) HS1.out; simpa using this) (by omega)
      have H2 : Hid (w.grownBy w2 (some g) ∧ RdAt w2 g b N cap l (6 + 16 * 0) ∧ w2.heap[w.heap.size]? = some (.cells #[.int .i64 vars, .slice none 0 0, .slice none 0 0] 67 (0, 0)) ∧ w2.ownsRow (w.heap.size + 1) 31 2 (.slice none 0 0) 0 (flatN 0 2 (fF L))) := Lib.hid ⟨grown_trans (grown_setNew G1.out (Nat.le_refl _) 0 _) hg2, hr2, hS2, World.ownsRow_nil _ _ _ _⟩
      clear hg2 hr2 hS2 k0 f0 hz1 HS1 HR1 G1 R2
      go_wp2
      go_loopw [19] (fun iv wr => ∃ (k : Nat) (A : Option Addr) (cp : Nat), k ≤ n ∧ iv = .int .i64 (k : Int) ∧ Hid (w.grownBy wr (some g) ∧ RdAt wr g b N cap l (6 + 16 * k) ∧ wr.heap[w.heap.size]? = some (.cells #[.int .i64 vars, .slice A k cp, .slice none 0 0] 67 (0, 0)) ∧ wr.ownsRow (w.heap.size + 1) 31 2 (.slice A k cp) k (flatN k 2 (fF L)))) (fun iv _ => n - (intOf iv).toNat)
      case atStart => exact ⟨0, none, 0, by omega, rfl, H2⟩
      case round =>
        obtain ⟨k, A, cp, hkn, rfl, H3⟩ := hrel
        by_cases hlt : k < n
        · have hlt' : (k : Int) < (n : Int) := by omega
          have kk : wr.drew.cell? ⟨w.heap.size, 1, none⟩ = some (.slice A k cp) := cell_heap (cs := [.int .i64 vars, .slice A k cp, .slice none 0 0]) H3.out.2.2.1 1 _ rfl
          have R3 := Lib.hid (H3.out.2.1.below ((Below.refl wr.heap.size wr).drew))
          have hzz := heap_lt H3.out.2.2.1
          obtain ⟨i0, hi, hz0, hz1, hz2⟩ := info_parts infoF
          go_wp2_with fail
          have hown := Lib.hid (own_drew H3.out.2.2.2)
          have hS := Lib.hid (show wr.drew.heap[w.heap.size]? = _ from H3.out.2.2.1)
          go_region_law (first
              | ((refine step_own (by rfl) _ _ 64 (by rfl) (w.heap.size + 1) 31 i0 _ 2 16 Try.underlying64 hi hz0 hz1 hz2 rfl (by decide) _ k (flatN k 2 (fF L)) (by rfl) ((own_kept hown.out hg4 (by omega)).alloc _) ⟨w4.heap.size, 0, none⟩ 1 1 [.float .f64 (L k).1, .float .f64 (L k).2] (by rfl) (by rfl) (new_cells w4 _ _) (by intro u hu; simp at hu; rcases hu with rfl | rfl <;> rfl) (by unfold maxLen; omega) (by omega) (by simp; omega) ?_); intro A5 cp5 w5 hown5 hgr5 hb5; have hS5 := (hb5.block w.heap.size (by omega)).trans ((heap_alloc_old w4 _ hz4).trans hS4); have ks5 := cell_heap (cs := [.int .i64 vars, .slice A k cp, .slice none 0 0]) hS5 1 _ rfl; have f5 := frozen_heap hS5 1; have hz5 := heap_lt hS5)
              | (go_simp; go_at_call 121; (with_reducible refine (RC.out k _ hlt R3.out).mono ?_); rintro e4 w4 ⟨rfl, hg4, hr4⟩; have hS4 := grown_heap hg4 hS.out (by omega); have ks := cell_heap (cs := [.int .i64 vars, .slice A k cp, .slice none 0 0]) hS4 1 _ rfl; have hz4 := heap_lt hS4))
          all_goals
            have H9 : Hid (w.grownBy (w5.setCell ⟨w.heap.size, 1, none⟩ (.slice A5 (k + 1) cp5)) (some g) ∧ RdAt (w5.setCell ⟨w.heap.size, 1, none⟩ (.slice A5 (k + 1) cp5)) g b N cap l (6 + 16 * (k + 1)) ∧ (w5.setCell ⟨w.heap.size, 1, none⟩ (.slice A5 (k + 1) cp5)).heap[w.heap.size]? = some (.cells #[.int .i64 vars, .slice A5 (k + 1) cp5, .slice none 0 0] 67 (0, 0)) ∧ (w5.setCell ⟨w.heap.size, 1, none⟩ (.slice A5 (k + 1) cp5)).ownsRow (w.heap.size + 1) 31 2 (.slice A5 (k + 1) cp5) (k + 1) (flatN (k + 1) 2 (fF L))) := Lib.hid (by
              refine ⟨grown_setNew (grown_belowB (grown_trans (grown_trans (grown_trans H3.out.1 (grown_below (Below.refl _ _).drew)) hg4) (World.grownBy_alloc _ _ _)) hb5 (by omega)) (Nat.le_refl _) _ _, ((hr4.alloc _).belowB hb5 (by omega) (by omega)).set (by omega) (by omega) _ _, ?_, ?_⟩
              · have := heap_setAt (o := 1) (v := .slice A5 (k + 1) cp5) hS5; simpa using this
              · rw [flatN_succ]; exact ownsRow_setCell_below hown5 (by simp) _)
            clear hg4 hr4 hb5 hS5 hown5 hS4 ks ks5 f5
            go_wp2
            go_roundw
            case rel => exact ⟨k + 1, A5, cp5, by omega, by go_num, H9⟩
            case measure => simp [intOf]; omega
        · have : k = n := by omega
          subst this
          go_wp2_with fail
          refine (RNm.out wr H3.out.2.1).mono ?_
          rintro e4 w4 ⟨rfl, hg4, hr4⟩
          have H4 : Hid (w.grownBy w4 (some g) ∧ RdAt w4 g b N cap l (8 + 16 * k + (encC C 0).length) ∧ w4.heap[w.heap.size]? = some (.cells #[.int .i64 vars, .slice A k cp, .slice none 0 0] 67 (0, 0)) ∧ w4.ownsRow (w.heap.size + 1) 31 2 (.slice A k cp) k (flatN k 2 (fF L)) ∧ w4.ownsRow (w.heap.size + 1) 117 5 (.slice none 0 0) 0 (flatN 0 5 (fI C))) :=
            Lib.hid ⟨grown_trans H3.out.1 hg4, hr4, grown_heap hg4 H3.out.2.2.1 (by omega), own_kept H3.out.2.2.2 hg4 (by omega), World.ownsRow_nil _ _ _ _⟩
          clear hg4 hr4
          go_wp2
          go_loopw [31] (fun iv wr => ∃ (i : Nat) (A2 : Option Addr) (cp2 : Nat), i ≤ m ∧ iv = .int .i64 (i : Int) ∧ Hid (w.grownBy wr (some g) ∧ RdAt wr g b N cap l (8 + 16 * k + (encC C i).length) ∧ wr.heap[w.heap.size]? = some (.cells #[.int .i64 vars, .slice A k cp, .slice A2 i cp2] 67 (0, 0)) ∧ wr.ownsRow (w.heap.size + 1) 31 2 (.slice A k cp) k (flatN k 2 (fF L)) ∧ wr.ownsRow (w.heap.size + 1) 117 5 (.slice A2 i cp2) i (flatN i 5 (fI C)))) (fun iv _ => m - (intOf iv).toNat)
          case atStart => exact ⟨0, none, 0, by omega, rfl, H4⟩
          case round =>
            obtain ⟨i, A2, cp2, him, rfl, H5⟩ := hrel
            by_cases hlt : i < m
            · have hlt' : (i : Int) < (m : Int) := by omega
              have k0 : wr.drew.cell? ⟨w.heap.size, 0, none⟩ = some (.int .i64 vars) := cell_heap (cs := [.int .i64 vars, .slice A k cp, .slice A2 i cp2]) H5.out.2.2.1 0 _ rfl
              have k1 : wr.drew.cell? ⟨w.heap.size, 1, none⟩ = some (.slice A k cp) := cell_heap (cs := [.int .i64 vars, .slice A k cp, .slice A2 i cp2]) H5.out.2.2.1 1 _ rfl
              have k2 : wr.drew.cell? ⟨w.heap.size, 2, none⟩ = some (.slice A2 i cp2) := cell_heap (cs := [.int .i64 vars, .slice A k cp, .slice A2 i cp2]) H5.out.2.2.1 2 _ rfl
              have R3 := Lib.hid (H5.out.2.1.below ((Below.refl wr.heap.size wr).drew))
              have hzz := heap_lt H5.out.2.2.1
              obtain ⟨i0, hi, hz0, hz1, hz2⟩ := info_parts infoI
              go_wp2_with fail
              have hown := Lib.hid (own_drew H5.out.2.2.2.2)
              have hown1 := Lib.hid (own_drew H5.out.2.2.2.1)
              have hS := Lib.hid (show wr.drew.heap[w.heap.size]? = _ from H5.out.2.2.1)
              go_region_law (first
                  | ((refine step_own (by rfl) _ _ 65 (by rfl) (w.heap.size + 1) 117 i0 _ 5 40 Try.underlying65 hi hz0 hz1 hz2 rfl (by decide) _ i (flatN i 5 (fI C)) (by rfl) ((own_kept hown.out hg4 (by omega)).alloc _) ⟨w4.heap.size, 0, none⟩ 1 1 [.int .i64 (C i 0), .int .i64 (C i 1), .int .i64 (C i 2), .int .i64 (C i 3), .int .i64 (C i 4)] (by rfl) (by rfl) (new_cells w4 _ _) (by intro u hu; simp at hu; rcases hu with rfl | rfl | rfl | rfl | rfl <;> rfl) (by unfold maxLen; omega) (by omega) (by simp; omega) ?_); intro A5 cp5 w5 hown5 hgr5 hb5; have hS5 := (hb5.block w.heap.size (by omega)).trans ((heap_alloc_old w4 _ hz4).trans hS4); have ks5 := cell_heap (cs := [.int .i64 vars, .slice A k cp, .slice A2 i cp2]) hS5 2 _ rfl; have f5 := frozen_heap hS5 2; have hz5 := heap_lt hS5)
                  | (go_simp; go_at_call 122; (with_reducible refine (RL.out i _ A A2 cp cp2 hlt R3.out).mono ?_); rintro e4 w4 ⟨rfl, hg4, hr4⟩; have hS4 := grown_heap hg4 hS.out (by omega); have ks := cell_heap (cs := [.int .i64 vars, .slice A k cp, .slice A2 i cp2]) hS4 2 _ rfl; have hz4 := heap_lt hS4))
              all_goals
                have H9 : Hid (w.grownBy (w5.setCell ⟨w.heap.size, 2, none⟩ (.slice A5 (i + 1) cp5)) (some g) ∧ RdAt (w5.setCell ⟨w.heap.size, 2, none⟩ (.slice A5 (i + 1) cp5)) g b N cap l (8 + 16 * k + (encC C (i + 1)).length) ∧ (w5.setCell ⟨w.heap.size, 2, none⟩ (.slice A5 (i + 1) cp5)).heap[w.heap.size]? = some (.cells #[.int .i64 vars, .slice A k cp, .slice A5 (i + 1) cp5] 67 (0, 0)) ∧ (w5.setCell ⟨w.heap.size, 2, none⟩ (.slice A5 (i + 1) cp5)).ownsRow (w.heap.size + 1) 31 2 (.slice A k cp) k (flatN k 2 (fF L)) ∧ (w5.setCell ⟨w.heap.size, 2, none⟩ (.slice A5 (i + 1) cp5)).ownsRow (w.heap.size + 1) 117 5 (.slice A5 (i + 1) cp5) (i + 1) (flatN (i + 1) 5 (fI C))) := Lib.hid (by
                  refine ⟨grown_setNew (grown_belowB (grown_trans (grown_trans (grown_trans H5.out.1 (grown_below (Below.refl _ _).drew)) hg4) (World.grownBy_alloc _ _ _)) hb5 (by omega)) (Nat.le_refl _) _ _, ((hr4.alloc _).belowB hb5 (by omega) (by omega)).set (by omega) (by omega) _ _, ?_, ?_, ?_⟩
                  · have := heap_setAt (o := 2) (v := .slice A5 (i + 1) cp5) hS5; simpa using this
                  · exact ownsRow_setCell_below (World.ownsRow.kept ((own_kept hown1.out hg4 (by omega)).alloc _) hgr5 (own_apart (own_kept hown1.out hg4 (by omega)) (own_kept hown.out hg4 (by omega)) (by decide))) (by simp) _
                  · rw [flatN_succ]; exact ownsRow_setCell_below hown5 (by simp) _)
                clear hg4 hr4 hb5 hS5 hown5 hS4 ks ks5 f5 hgr5
                go_wp2
                go_roundw
                case rel => exact ⟨i + 1, A5, cp5, by omega, by go_num, H9⟩
                case measure => simp [intOf]; omega
            · have : i = m := by omega
              subst this
              have hN2 := HLN.out
              have hp : RdAt wr g b N cap l N := by have := H5.out.2.1; rwa [← hN2] at this
              have HP := Lib.hid hp
              have q0 := cell_heap (cs := [.slice (some ⟨b, 0, none⟩) N cap, .int .i64 (N : Int)]) hp.heap 0 _ rfl
              have q1 := cell_heap (cs := [.slice (some ⟨b, 0, none⟩) N cap, .int .i64 (N : Int)]) hp.heap 1 _ rfl
              have hgl := heap_lt hp.heap
              have hS := Lib.hid H5.out.2.2.1
              clear hp hN2
              go_wp2_with fail
              refine region_quiet (by kernel_rfl) (by kernel_rfl) ?_
              repeat (refine wpQuiet_step (fun K hK => ?_); go_simp; first | (refine hK _ ?_; clear hK K))
              refine wpQuiet_nil ?_
              intro w6 hb6
              have hS6 := below_heap hb6 hS.out
              have k0 := cell_heap (cs := [.int .i64 vars, .slice A k cp, .slice A2 i cp2]) hS6 0 _ rfl
              have k1 := cell_heap (cs := [.int .i64 vars, .slice A k cp, .slice A2 i cp2]) hS6 1 _ rfl
              have k2 := cell_heap (cs := [.int .i64 vars, .slice A k cp, .slice A2 i cp2]) hS6 2 _ rfl
              have f0 := frozen_heap hS6 0
              have f1 := frozen_heap hS6 1
              have f2 := frozen_heap hS6 2
              have hz6 := heap_lt hS6
              have G6 := Lib.hid (grown_trans H5.out.1 (grown_below hb6))
              have O1 := Lib.hid (own_below H5.out.2.2.2.1 hb6)
              have O2 := Lib.hid (own_below H5.out.2.2.2.2 hb6)
              clear hb6 q0 q1
              go_wp2
              all_goals
                refine bodyPost_ret (v := .agg #[.int .i64 vars, .slice A k cp, .slice A2 i cp2]) (by simp [results, Try.results82, go_sem, *]) rfl ?_
                refine ⟨A, cp, A2, cp2, rfl, ?_, ?_, ?_⟩
                · exact ownsRow_setCell_below (ownsRow_setCell_below (ownsRow_setCell_below O1.out (by simp) _) (by simp) _) (by simp) _
                · exact ownsRow_setCell_below (ownsRow_setCell_below (ownsRow_setCell_below O2.out (by simp) _) (by simp) _) (by simp) _
                · exact grown_setNew (grown_setNew (grown_setNew G6.out (Nat.le_refl _) 0 _) (Nat.le_refl _) 1 _) (Nat.le_refl _) 2 _

end Go.Proofs.Ytamaeggkpdgaiaa
