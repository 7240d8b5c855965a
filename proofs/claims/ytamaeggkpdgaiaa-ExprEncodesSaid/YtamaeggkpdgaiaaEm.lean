/- The walks of vergeref16.Out, Outs, Read. -/
import Derived.Test.YtamaeggkpdgaiaaWn
namespace Go.Proofs.Ytamaeggkpdgaiaa.Back
open Go.RowKit


theorem infoF : (Try.prog.info? 27).map (fun i => (i.zero, i.size, i.bytes)) = some (some (.agg #[.int .u64 0, .int .u64 0]), 2, 16) := by kernel_rfl

set_option maxRecDepth 100000 in
set_option maxHeartbeats 400000 in
theorem in16_any (x y : Nat) (w : World) :
    Calls Try.prog 123 #[.agg #[.float .f64 x, .float .f64 y]] w fun e w' => e = .returned (.agg #[.int .u64 (x : Int), .int .u64 (y : Int)]) ∧ Below w.heap.size w w' := by
  go_enter Try.func123, Try.ntmps123
  go_wp2
  refine region_tail 7 (by kernel_rfl) (by kernel_rfl) ?_
  simp only [List.take_succ_cons, List.take_zero, List.drop_succ_cons, List.drop_zero]
  repeat (refine wpStill_step (fun K hK => ?_); go_simp; first | (refine hK _ ?_; clear hK K))
  try refine wpStill_nil ?_
  go_wp2
  all_goals
    refine bodyPost_ret (v := .agg #[.int .u64 (x : Int), .int .u64 (y : Int)]) (by simp [results, Try.results123, go_sem, *]) rfl ⟨rfl, (by repeat (first | exact Below.refl _ _ | (refine Below.alloc ?_ (by first | exact Nat.le_refl _ | omega | (simp; done) | (simp; omega)) _) | refine Below.drew ?_ | (refine Below.setCell ?_ (by first | exact Nat.le_refl _ | omega | (simp; done) | (simp; omega)) _)))⟩


set_option maxRecDepth 100000 in
set_option maxHeartbeats 1000000 in
theorem box_any (A : Option Addr) (n cap : Nat) (L : Nat → Nat × Nat) (w : World) (hn : n * 16 ≤ 140737488351232) (hr : RowN w w.heap.size 2 A n (fF L)) :
    Calls Try.prog 84 #[.slice A n cap] w fun e w' => OwnL 27 2 n (fU L) w.heap.size e w w' := by
  obtain ⟨i0, hi, hz0, hz1, hz2⟩ := info_parts infoF
  generalize hB : w.heap.size = B at *
  have HB := Lib.hid hB
  have HR := Lib.hid hr; clear hr
  go_enter Try.func84, Try.ntmps84
  go_wp2
  go_loopw [3, 4] (fun v i wr => ∃ k : Nat, k ≤ n ∧ i = .int .i64 k ∧ wr.ownsRow B 27 2 v k (flatN k 2 (fU L)) ∧ Below B w wr) (fun _ i _ => n - (intOf i).toNat)
  case atStart => exact ⟨0, Nat.zero_le _, rfl, ⟨rfl, Or.inl ⟨rfl, rfl⟩⟩, Below.refl _ _⟩
  case round =>
    obtain ⟨k, hk, rfl, hown, hbel⟩ := hrel
    by_cases hlt : k < n
    · obtain ⟨b, off, rfl, hbB, hcell⟩ := HR.out (by omega)
      have c0 : wr.cell? ⟨b, off + k * 2, none⟩ = some (.float .f64 (L k).1) := by rw [hbel.cell (p := ⟨b, _, none⟩) hbB]; exact hcell k hlt 0 (by omega)
      have c1 : wr.cell? ⟨b, off + k * 2 + 1, none⟩ = some (.float .f64 (L k).2) := by rw [hbel.cell (p := ⟨b, _, none⟩) hbB]; exact hcell k hlt 1 (by omega)
      have Hcell := Lib.hid hcell; clear hcell
      have HBel := Lib.hid hbel; have HOwn := Lib.hid hown; clear hbel hown hB
      go_wp2_with fail
      refine (in16_any _ _ _).mono ?_
      rintro e w1 ⟨rfl, hb⟩
      clear c0 c1
      have hown1 := own_below HOwn.out hb
      have hsz := hb.size
      have HB1 := Lib.hid hb; have HO1 := Lib.hid hown1; clear hb hown1
      go_wp2_with (at_builtin; (refine wpList_append_own _ rfl _ _ 57 rfl B 27 i0 _ 2 16 Try.underlying57 hi hz0 hz1 hz2 rfl (by decide) _ k _ rfl (HO1.out.alloc _) ⟨w1.heap.size, 0, none⟩ 1 1 [.int .u64 ((L k).1 : Int), .int .u64 ((L k).2 : Int)] rfl rfl ?c1 ?c2 ?c3 ?c4 ?c5 ?_))
      case c1 => exact new_cells w1 [.int .u64 ((L k).1 : Int), .int .u64 ((L k).2 : Int)] _
      case c2 => intro u hu; simp at hu; rcases hu with rfl | rfl <;> rfl
      case c3 => unfold maxLen; omega
      case c4 => omega
      case c5 => have h1 := HBel.out.size; have h2 := HB.out; simp; omega
      intro v' w2 hown2 hgrow _
      have hrel2 : Hid (w2.ownsRow B 27 2 v' (k + 1) (flatN (k + 1) 2 (fU L)) ∧ Below B w w2) := Lib.hid ⟨by rw [flatN_succ]; exact hown2, below_grown HBel.out HB1.out (by have h1 := HBel.out.size; have h2 := HB.out; omega) HO1.out hgrow⟩
      clear hown2 hgrow hsz
      go_wp2
      go_roundw
      case rel => exact ⟨k + 1, by omega, by go_num, hrel2.out.1, hrel2.out.2⟩
      case measure => simp [intOf]; omega
    · have hkn : k = n := by omega
      subst hkn
      have HBel := Lib.hid hbel; have HOwn := Lib.hid hown; clear hbel hown hB
      go_wp2
      go_ret
      obtain ⟨A', cap', rfl⟩ := own_form HOwn.out
      exact ⟨A', cap', rfl, HOwn.out, HBel.out⟩


theorem infoI : (Try.prog.info? 120).map (fun i => (i.zero, i.size, i.bytes)) = some (some (.agg #[.int .i64 0, .int .i64 0, .int .i64 0, .int .i64 0, .int .i64 0]), 5, 40) := by kernel_rfl

/-- What Made's first statement leaves: the new program's block g, its list of constants. -/
structure CutM (w : World) (g : Nat) (A1 : Option Addr) (cp1 : Nat) (vars : Int) (A A2 : Option Addr) (n cap m cap2 : Nat) (L : Nat → Nat × Nat) (wr : World) : Prop where
  hg : w.heap.size + 2 ≤ g
  hg2 : g < wr.heap.size
  c0 : wr.cell? ⟨g, 0, none⟩ = some (.int .i64 vars)
  c1 : wr.cell? ⟨g, 1, none⟩ = some (.slice A1 n cp1)
  c2 : wr.cell? ⟨g, 2, none⟩ = some (.slice none 0 0)
  f2 : wr.frozen? ⟨g, 2, none⟩ = false
  p0 : wr.cell? ⟨w.heap.size, 2, none⟩ = some (.slice A2 m cap2)
  own : wr.ownsRow (w.heap.size + 2) 27 2 (.slice A1 n cp1) n (flatN n 2 (fU L))
  apart : ∀ h, Value.ownBlock (.slice A1 n cp1) = some h → h ≠ g
  bel : Below w.heap.size w wr
  r0 : wr.cell? ⟨w.heap.size + 1, 0, none⟩ = some (.int .i64 0)
  r1 : wr.cell? ⟨w.heap.size + 1, 1, none⟩ = some (.slice none 0 0)
  r2 : wr.cell? ⟨w.heap.size + 1, 2, none⟩ = some (.slice none 0 0)
  rf : ∀ o, wr.frozen? ⟨w.heap.size + 1, o, none⟩ = false

section
variable {w w1 : World} {A1 A A2 : Option Addr} {cp1 n cap m cap2 : Nat} {vars : Int} {L : Nat → Nat × Nat} {o1 o2 : Value}
theorem cutM_after (hp : w1.cell? ⟨w.heap.size, 2, none⟩ = some (.slice A2 m cap2)) (hz : w.heap.size + 1 < w1.heap.size) (ho : w1.ownsRow (w.heap.size + 2) 27 2 (.slice A1 n cp1) n (flatN n 2 (fU L))) (hb : Below w.heap.size w w1)
    (r0 : w1.cell? ⟨w.heap.size + 1, 0, none⟩ = some (.int .i64 0)) (r1 : w1.cell? ⟨w.heap.size + 1, 1, none⟩ = some (.slice none 0 0)) (r2 : w1.cell? ⟨w.heap.size + 1, 2, none⟩ = some (.slice none 0 0)) (rf : ∀ o, w1.frozen? ⟨w.heap.size + 1, o, none⟩ = false) :
    CutM w w1.heap.size A1 cp1 vars A A2 n cap m cap2 L (w1.alloc (.cells #[.int .i64 vars, .slice A1 n cp1, .slice none 0 0] 60)) :=
  ⟨by omega, by simp, by simp, by simp, by simp, by simp [go_sem], by rw [World.cell?_alloc_lt _ _ _ (by simp; omega)]; exact hp, ho.alloc _, fun h hh => by have := own_lt ho hh; omega, hb.alloc hb.size _,
    by rw [World.cell?_alloc_lt _ _ _ (by simp; omega)]; exact r0, by rw [World.cell?_alloc_lt _ _ _ (by simp; omega)]; exact r1, by rw [World.cell?_alloc_lt _ _ _ (by simp; omega)]; exact r2,
    fun o => by rw [World.frozen?_alloc_past _ _ _ (by omega)]; exact rf o⟩

theorem cutM_before (hp : w1.cell? ⟨w.heap.size, 2, none⟩ = some (.slice A2 m cap2)) (hz : w.heap.size + 1 + 1 < w1.heap.size)
    (q0 : w1.cell? ⟨w.heap.size + 1 + 1, 0, none⟩ = some (.int .i64 0)) (q1 : w1.cell? ⟨w.heap.size + 1 + 1, 1, none⟩ = some (.slice none 0 0)) (q2 : w1.cell? ⟨w.heap.size + 1 + 1, 2, none⟩ = some (.slice none 0 0)) (f2 : w1.frozen? ⟨w.heap.size + 1 + 1, 2, none⟩ = false)
    (ho : w1.ownsRow (w.heap.size + 3) 27 2 (.slice A1 n cp1) n (flatN n 2 (fU L))) (hb : Below w.heap.size w w1)
    (r0 : w1.cell? ⟨w.heap.size + 1, 0, none⟩ = some (.int .i64 0)) (r1 : w1.cell? ⟨w.heap.size + 1, 1, none⟩ = some (.slice none 0 0)) (r2 : w1.cell? ⟨w.heap.size + 1, 2, none⟩ = some (.slice none 0 0)) (rf : ∀ o, w1.frozen? ⟨w.heap.size + 1, o, none⟩ = false) :
    CutM w (w.heap.size + 1 + 1) A1 cp1 vars A A2 n cap m cap2 L (((w1.setCell ⟨w.heap.size + 1 + 1, 0, none⟩ (.int .i64 vars)).setCell ⟨w.heap.size + 1 + 1, 1, none⟩ (.slice A1 n cp1)).setCell ⟨w.heap.size + 1 + 1, 2, none⟩ (.slice none 0 0)) := by
  refine ⟨by omega, by simp [World.setCell]; omega, by simp [go_sem, q0], by simp [go_sem, q1], by simp [go_sem, q2], by simp [go_sem, f2], by simp [go_sem, hp], ?_, fun h hh => by have := own_block ho hh; omega, ?_, by simp [go_sem, r0], by simp [go_sem, r1], by simp [go_sem, r2], fun o => by simp [go_sem, rf]⟩
  · exact own_mono (ownsRow_setCell_below (ownsRow_setCell_below (ownsRow_setCell_below ho (by simp) _) (by simp) _) (by simp) _) (by omega)
  · exact ((hb.setCell (by simp; omega) _).setCell (by simp; omega) _).setCell (by simp; omega) _
end

/-- What holds at the head of each round of Made's loop: k lines are there. -/
structure RelM (w : World) (g : Nat) (A1 : Option Addr) (cp1 : Nat) (vars : Int) (A2 : Option Addr) (n m cap2 : Nat) (L : Nat → Nat × Nat) (C : Nat → Nat → Int) (k : Nat) (wr : World) : Prop where
  hg : w.heap.size + 2 ≤ g
  hg2 : g < wr.heap.size
  c0 : wr.cell? ⟨g, 0, none⟩ = some (.int .i64 vars)
  c1 : wr.cell? ⟨g, 1, none⟩ = some (.slice A1 n cp1)
  f2 : wr.frozen? ⟨g, 2, none⟩ = false
  p0 : wr.cell? ⟨w.heap.size, 2, none⟩ = some (.slice A2 m cap2)
  own : wr.ownsRow (w.heap.size + 2) 27 2 (.slice A1 n cp1) n (flatN n 2 (fU L))
  apart : ∀ h, Value.ownBlock (.slice A1 n cp1) = some h → h ≠ g
  bel : Below w.heap.size w wr
  r0 : wr.cell? ⟨w.heap.size + 1, 0, none⟩ = some (.int .i64 0)
  r1 : wr.cell? ⟨w.heap.size + 1, 1, none⟩ = some (.slice none 0 0)
  r2 : wr.cell? ⟨w.heap.size + 1, 2, none⟩ = some (.slice none 0 0)
  rf : ∀ o, wr.frozen? ⟨w.heap.size + 1, o, none⟩ = false
  code : ∃ A' cp', wr.cell? ⟨g, 2, none⟩ = some (.slice A' k cp') ∧ wr.ownsRow (g + 1) 120 5 (.slice A' k cp') k (flatN k 5 (fI C))

theorem CutM.start {w wr : World} {g : Nat} {A1 A A2 : Option Addr} {cp1 n cap m cap2 : Nat} {vars : Int} {L : Nat → Nat × Nat} {C : Nat → Nat → Int} (h : CutM w g A1 cp1 vars A A2 n cap m cap2 L wr) :
    RelM w g A1 cp1 vars A2 n m cap2 L C 0 wr :=
  ⟨h.hg, h.hg2, h.c0, h.c1, h.f2, h.p0, h.own, h.apart, h.bel, h.r0, h.r1, h.r2, h.rf, _, _, h.c2, ⟨rfl, Or.inl ⟨rfl, rfl⟩⟩⟩

/-- Two rows of different element types do not share a block. -/
theorem own_types {w : World} {b b' c c' n n' : Nat} {e e' : TypeId} {v v' : Value} {xs xs' : List Value} (h : w.ownsRow b e c v n xs) (h' : w.ownsRow b' e' c' v' n' xs') (he : e ≠ e') : v.ownBlock = none ∨ v.ownBlock ≠ v'.ownBlock := by
  rcases h.2 with ⟨rfl, _⟩ | ⟨g, _, cur, rfl, _, hg, _⟩
  · exact Or.inl rfl
  · rcases h'.2 with ⟨rfl, _⟩ | ⟨g', _, cur', rfl, _, hg', _⟩
    · right; simp [Value.ownBlock]
    · right
      simp only [Value.ownBlock, ne_eq, Option.some.injEq]
      rintro rfl
      rw [hg] at hg'
      simp at hg'
      exact he hg'.2

/-- One round: a local copy of the line, a new one, the append, the store. -/
theorem RelM.step {w wr w2 : World} {g : Nat} {A1 A2 A' : Option Addr} {cp1 n m cap2 k cp' : Nat} {vars : Int} {L : Nat → Nat × Nat} {C : Nat → Nat → Int} {o1 o2 : Obj} {v' : Value}
    (h : RelM w g A1 cp1 vars A2 n m cap2 L C k wr) (hown : wr.ownsRow (g + 1) 120 5 (.slice A' k cp') k (flatN k 5 (fI C)))
    (hown2 : w2.ownsRow (g + 1) 120 5 v' (k + 1) (flatN (k + 1) 5 (fI C))) (hg : ((wr.alloc o1).alloc o2).grownBy w2 (Value.ownBlock (.slice A' k cp'))) :
    RelM w g A1 cp1 vars A2 n m cap2 L C (k + 1) (w2.setCell ⟨g, 2, none⟩ v') := by
  have hkeep : ∀ b, b < wr.heap.size → (∀ h, Value.ownBlock (.slice A' k cp') = some h → h ≠ b) → w2.heap[b]? = wr.heap[b]? := fun b hb hne' => by
    rw [hg.block b (by simp; omega) (fun e => hne' b e.symm rfl), Below.heap_alloc _ _ _ (by simp; omega), Below.heap_alloc _ _ _ hb]
  have hge : ∀ h, Value.ownBlock (.slice A' k cp') = some h → g + 1 ≤ h := fun h hh => own_block hown hh
  have hap : ∀ h, Value.ownBlock (.slice A' k cp') = some h → h ≠ g := fun h hh => by have := hge h hh; omega
  have hne : ∀ h, v'.ownBlock = some h → h ≠ g := fun h hh => by have := own_block hown2 hh; omega
  have hwr := h.bel.size
  have hg2 := h.hg2
  have hgg := h.hg
  have hsz := hg.size
  simp at hsz
  have cell : ∀ b o, b < wr.heap.size → (∀ h, Value.ownBlock (.slice A' k cp') = some h → h ≠ b) → w2.cell? ⟨b, o, none⟩ = wr.cell? ⟨b, o, none⟩ := fun b o hb hn => World.cell?_of_block (hkeep b hb hn)
  have froz : ∀ b o, b < wr.heap.size → (∀ h, Value.ownBlock (.slice A' k cp') = some h → h ≠ b) → w2.frozen? ⟨b, o, none⟩ = wr.frozen? ⟨b, o, none⟩ := fun b o hb hn => World.frozen?_of_block (hkeep b hb hn)
  have low : ∀ b, b < w.heap.size + 2 → ∀ h, Value.ownBlock (.slice A' k cp') = some h → h ≠ b := fun b hb h hh => by have := hge h hh; omega
  have oth : ∀ b o, b ≠ g → (w2.setCell ⟨g, 2, none⟩ v').cell? ⟨b, o, none⟩ = w2.cell? ⟨b, o, none⟩ := fun b o hb => World.cell?_setCell_other w2 _ _ _ (by intro e; injection e with e1; omega)
  have frz : ∀ b o, (w2.setCell ⟨g, 2, none⟩ v').frozen? ⟨b, o, none⟩ = w2.frozen? ⟨b, o, none⟩ := fun b o => by simp [go_sem]
  have own1 : w2.ownsRow (w.heap.size + 2) 27 2 (.slice A1 n cp1) n (flatN n 2 (fU L)) :=
    ((h.own.alloc o1).alloc o2).kept hg (own_types h.own hown (by decide))
  have stored : ∀ {B : Nat} {e : TypeId} {c n' : Nat} {u : Value} {xs : List Value}, w2.ownsRow B e c u n' xs → (∀ h, u.ownBlock = some h → h ≠ g) → (w2.setCell ⟨g, 2, none⟩ v').ownsRow B e c u n' xs := by
    intro B e c n' u xs ho hn
    refine ⟨ho.1, ?_⟩
    rcases ho.2 with h0 | ⟨b, cp, cur, hv, h1, h2, h3⟩
    · exact Or.inl h0
    · refine Or.inr ⟨b, cp, cur, hv, h1, ?_, h3⟩
      rw [Below.heap_setCell _ _ _ _ (by subst hv; exact hn b rfl)]
      exact h2
  obtain ⟨x2, hx2⟩ : ∃ x, wr.cell? ⟨g, 2, none⟩ = some x := by obtain ⟨_, _, hc, _⟩ := h.code; exact ⟨_, hc⟩
  have hw2 : w2.cell? ⟨g, 2, none⟩ = some x2 := by rw [cell g 2 hg2 hap]; exact hx2
  obtain ⟨An, cpn, rfl⟩ := own_form hown2
  refine ⟨hgg, by simp [World.setCell]; omega, ?_, ?_, ?_, ?_, stored own1 h.apart, h.apart, ?_, ?_, ?_, ?_, ?_, An, cpn, ?_, stored hown2 hne⟩
  · rw [World.cell?_setCell_other w2 _ _ _ (by intro e; injection e with e1 e2; omega), cell g 0 hg2 hap]; exact h.c0
  · rw [World.cell?_setCell_other w2 _ _ _ (by intro e; injection e with e1 e2; omega), cell g 1 hg2 hap]; exact h.c1
  · rw [frz, froz g 2 hg2 hap]; exact h.f2
  · rw [oth _ _ (by omega), cell _ _ (by omega) (low _ (by omega))]; exact h.p0
  · refine Below.setCell (h.bel.trans ⟨?_, ?_, ?_, ?_, ?_⟩) (by simp; omega) _
    · exact hg.os
    · exact hg.tape
    · exact hg.output
    · omega
    · intro b hb; exact hkeep b (by omega) (low b (by omega))
  · rw [oth _ _ (by omega), cell _ _ (by omega) (low _ (by omega))]; exact h.r0
  · rw [oth _ _ (by omega), cell _ _ (by omega) (low _ (by omega))]; exact h.r1
  · rw [oth _ _ (by omega), cell _ _ (by omega) (low _ (by omega))]; exact h.r2
  · intro o; rw [frz, froz _ _ (by omega) (low _ (by omega))]; exact h.rf o
  · simp [go_sem, hw2]

/-- The new program's block behind the append. -/
theorem RelM.at_g {w wr w2 : World} {g : Nat} {A1 A2 A' : Option Addr} {cp1 n m cap2 k cp' : Nat} {vars : Int} {L : Nat → Nat × Nat} {C : Nat → Nat → Int} {o1 o2 : Obj} {x : Value}
    (h : RelM w g A1 cp1 vars A2 n m cap2 L C k wr) (hown : wr.ownsRow (g + 1) 120 5 (.slice A' k cp') k (flatN k 5 (fI C))) (hc : wr.cell? ⟨g, 2, none⟩ = some x)
    (hg : ((wr.alloc o1).alloc o2).grownBy w2 (Value.ownBlock (.slice A' k cp'))) : w2.cell? ⟨g, 2, none⟩ = some x ∧ w2.frozen? ⟨g, 2, none⟩ = false := by
  have hg2 := h.hg2
  have hb : w2.heap[g]? = wr.heap[g]? := by
    rw [hg.block g (by simp; omega) (fun e => by have := own_block hown e.symm; omega), Below.heap_alloc _ _ _ (by simp; omega), Below.heap_alloc _ _ _ hg2]
  exact ⟨(World.cell?_of_block (a := ⟨g, 2, none⟩) hb).trans hc, (World.frozen?_of_block (a := ⟨g, 2, none⟩) hb).trans h.f2⟩

/-- What Made answers: its lists are the call's own. -/
def MadeP (vars : Int) (n m : Nat) (L : Nat → Nat × Nat) (C : Nat → Nat → Int) (w : World) (e : Ending) (w' : World) : Prop :=
  ∃ A1 cp1 A2 cp2, e = .returned (.agg #[.int .i64 vars, .slice A1 n cp1, .slice A2 m cp2]) ∧ w'.ownsRow w.heap.size 27 2 (.slice A1 n cp1) n (flatN n 2 (fU L)) ∧
    w'.ownsRow w.heap.size 120 5 (.slice A2 m cp2) m (flatN m 5 (fI C)) ∧ Below w.heap.size w w'

theorem RelM.fin {w wr : World} {g : Nat} {A1 A2 A' : Option Addr} {cp1 n m cap2 cp' : Nat} {vars : Int} {L : Nat → Nat × Nat} {C : Nat → Nat → Int} {a b c : Value}
    (h : RelM w g A1 cp1 vars A2 n m cap2 L C m wr) (hown : wr.ownsRow (g + 1) 120 5 (.slice A' m cp') m (flatN m 5 (fI C))) :
    MadeP vars n m L C w (.returned (.agg #[.int .i64 vars, .slice A1 n cp1, .slice A' m cp'])) (((wr.setCell ⟨w.heap.size + 1, 0, none⟩ a).setCell ⟨w.heap.size + 1, 1, none⟩ b).setCell ⟨w.heap.size + 1, 2, none⟩ c) := by
  have hg := h.hg
  refine ⟨A1, cp1, A', cp', rfl, ?_, ?_, ?_⟩
  · exact own_mono (ownsRow_setCell_below (ownsRow_setCell_below (ownsRow_setCell_below h.own (by simp) _) (by simp) _) (by simp) _) (by omega)
  · exact own_mono (ownsRow_setCell_below (ownsRow_setCell_below (ownsRow_setCell_below hown (by simp; omega) _) (by simp; omega) _) (by simp; omega) _) (by omega)
  · exact ((h.bel.setCell (by simp) _).setCell (by simp) _).setCell (by simp) _


set_option maxRecDepth 100000 in
set_option maxHeartbeats 2000000 in
theorem made_any (vars : Int) (A A2 : Option Addr) (n cap m cap2 : Nat) (L : Nat → Nat × Nat) (C : Nat → Nat → Int) (w : World) (hn : n * 16 ≤ 140737488351232) (hm : m * 40 ≤ 140737488351232)
    (hr : RowN w w.heap.size 2 A n (fF L)) (hr2 : RowN w w.heap.size 5 A2 m (fI C)) :
    Calls Try.prog 41 #[.agg #[.int .i64 vars, .slice A n cap, .slice A2 m cap2]] w fun e w' => MadeP vars n m L C w e w' := by
  obtain ⟨i0, hi, hz0, hz1, hz2⟩ := info_parts infoI
  have HR := Lib.hid hr; clear hr
  have HR2 := Lib.hid hr2; clear hr2
  go_enter Try.func41, Try.ntmps41
  go_wp2_with fail
  go_upto_region 1 with (fail)
  go_cut [3] (fun v wr => ∃ g A1 cp1, v = .pointer (some ⟨g, 0, none⟩) ∧ CutM w g A1 cp1 vars A A2 n cap m cap2 L wr)
  case first =>
    go_region_with (go_at_call 84; refine (box_any _ _ _ L _ hn (by exact (HR.out.below (by repeat (first | exact Below.refl _ _ | (refine Below.alloc ?_ (by first | exact Nat.le_refl _ | omega | (simp; done) | (simp; omega)) _) | refine Below.drew ?_))).more (by simp; omega))).mono ?_; rintro e w1 ⟨A1, cp1, rfl, hown1, hb1⟩; obtain ⟨hc, hf⟩ := bcell hb1; have hz0 : w.heap.size < w1.heap.size := (by have := hb1.size; simp at this; omega); have hz1 : w.heap.size + 1 < w1.heap.size := (by have := hb1.size; simp at this; omega); (try have hz2 : w.heap.size + 2 < w1.heap.size := (by have := hb1.size; simp at this; omega)))
    all_goals
      go_wp2_with fail
      go_meet
      have hbb := below_then (w := w) (by repeat (first | exact Below.refl _ _ | (refine Below.alloc ?_ (by first | exact Nat.le_refl _ | omega | (simp; done) | (simp; omega)) _) | refine Below.drew ?_)) hb1
      first
        | (refine ⟨_, _, _, rfl, cutM_after ?_ hz1 ?_ hbb ?_ ?_ ?_ ?_⟩
           · rw [hc _ _ (by simp; omega)]; simp [go_sem]
           · exact own_mono hown1 (by simp)
           · rw [hc _ _ (by simp)]; simp [go_sem]
           · rw [hc _ _ (by simp)]; simp [go_sem]
           · rw [hc _ _ (by simp)]; simp [go_sem]
           · intro o; rw [hf _ _ (by simp)]; simp [go_sem])
        | (refine ⟨_, _, _, rfl, cutM_before ?_ hz2 ?_ ?_ ?_ ?_ ?_ hbb ?_ ?_ ?_ ?_⟩
           · rw [hc _ _ (by simp; omega)]; simp [go_sem]
           · rw [hc _ _ (by simp)]; simp [go_sem]
           · rw [hc _ _ (by simp)]; simp [go_sem]
           · rw [hc _ _ (by simp)]; simp [go_sem]
           · rw [hf _ _ (by simp)]; simp [go_sem]
           · exact own_mono hown1 (by simp)
           · rw [hc _ _ (by simp)]; simp [go_sem]
           · rw [hc _ _ (by simp)]; simp [go_sem]
           · rw [hc _ _ (by simp)]; simp [go_sem]
           · intro o; rw [hf _ _ (by simp)]; simp [go_sem])
  case rest =>
    obtain ⟨g, A1, cp1, rfl, hm0⟩ := hcut
    have HM := Lib.hid hm0; clear hm0
    go_wp2_with fail
    go_loopw [4, 5] (fun i _ wr => ∃ k : Nat, k ≤ m ∧ i = .int .i64 k ∧ RelM w g A1 cp1 vars A2 n m cap2 L C k wr) (fun i _ _ => m - (intOf i).toNat)
    case atStart => exact ⟨0, Nat.zero_le _, rfl, HM.out.start⟩
    case round =>
      obtain ⟨k, hk, rfl, hrel⟩ := hrel
      have HRel := Lib.hid hrel
      obtain ⟨A', cp', hc2, hown⟩ := hrel.code
      have HOwn := Lib.hid hown; clear hown
      have hp0 := hrel.p0
      have hf2 := hrel.f2
      have hg2 := hrel.hg2
      have hbel := hrel.bel
      have hc0 := hrel.c0
      have hc1 := hrel.c1
      have hr0 := hrel.r0; have hr1 := hrel.r1; have hr2 := hrel.r2; have hrf := hrel.rf
      clear hrel
      by_cases hlt : k < m
      · obtain ⟨b, off, rfl, hbB, hcell⟩ := HR2.out (by omega)
        have d : ∀ j, j < 5 → wr.cell? ⟨b, off + k * 5 + j, none⟩ = some (.int .i64 (C k j)) := fun j hj => by rw [hbel.cell (p := ⟨b, _, none⟩) hbB]; exact hcell k hlt j hj
        have d0 := d 0 (by omega); have d1 := d 1 (by omega); have d2 := d 2 (by omega); have d3 := d 3 (by omega); have d4 := d 4 (by omega)
        rw [Nat.add_zero] at d0
        have Hcell := Lib.hid hcell; have HBel := Lib.hid hbel; have hbs := hbel.size
        clear hcell d hbel
        go_wp2_with (at_builtin; (refine wpList_append_own _ rfl _ _ 58 rfl (g + 1) 120 i0 _ 5 40 Try.underlying58 hi hz0 hz1 hz2 rfl (by decide) _ k _ rfl ((HOwn.out.alloc _).alloc _) ⟨wr.heap.size + 1, 0, none⟩ 1 1 [.int .i64 (C k 0), .int .i64 (C k 1), .int .i64 (C k 2), .int .i64 (C k 3), .int .i64 (C k 4)] rfl rfl ?c1 ?c2 ?c3 ?c4 ?c5 ?_))
        case c1 =>
          have hnew := new_cells (wr.alloc (.cells #[.int .i64 (C k 0), .int .i64 (C k 1), .int .i64 (C k 2), .int .i64 (C k 3), .int .i64 (C k 4)] 117)) [.int .i64 (C k 0), .int .i64 (C k 1), .int .i64 (C k 2), .int .i64 (C k 3), .int .i64 (C k 4)] 120
          rw [show (wr.alloc (.cells #[.int .i64 (C k 0), .int .i64 (C k 1), .int .i64 (C k 2), .int .i64 (C k 3), .int .i64 (C k 4)] 117)).heap.size = wr.heap.size + 1 from by simp] at hnew
          exact hnew
        case c2 => intro u hu; simp at hu; rcases hu with rfl | rfl | rfl | rfl | rfl <;> rfl
        case c3 => unfold maxLen; omega
        case c4 => omega
        case c5 => simp; omega
        intro v' w2 hown2 hgrow _
        have hown3 := hown2
        rw [show [Value.int .i64 (C k 0), .int .i64 (C k 1), .int .i64 (C k 2), .int .i64 (C k 3), .int .i64 (C k 4)] = (List.range 5).map (fI C k) from rfl, ← flatN_succ] at hown3
        have hstep := Lib.hid (HRel.out.step HOwn.out hown3 hgrow)
        obtain ⟨q1, q2⟩ := HRel.out.at_g HOwn.out hc2 hgrow
        obtain ⟨An, cpn, rfl⟩ := own_form hown2
        clear hown2 hown3 hgrow d0 d1 d2 d3 d4 hc2 hp0 hf2 hc0 hc1 hr0 hr1 hr2 hrf
        go_wp2
        go_roundw
        case rel => exact ⟨k + 1, by omega, by go_num, hstep.out⟩
        case measure => simp [intOf]; omega
      · have hkm : k = m := by omega
        subst hkm
        have hgg := HRel.out.hg
        have HBel := Lib.hid hbel; clear hbel
        go_wp2
        refine bodyPost_ret (v := .agg #[.int .i64 vars, .slice A1 n cp1, .slice A' k cp']) (by simp [results, Try.results41, go_sem, *]) rfl (HRel.out.fin HOwn.out)

end Go.Proofs.Ytamaeggkpdgaiaa.Back
