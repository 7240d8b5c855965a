/- What Made's first statement leaves, and the lines of a program. -/
import Derived.Test.YtamaeggkpdgaiaaWl
namespace Go.Proofs.Ytamaeggkpdgaiaa
open Go.RowKit

/-- Lines of a program: five ints. -/
def fI (C : Nat → Nat → Int) (i j : Nat) : Value := .int .i64 (C i j)
theorem infoI : (Try.prog.info? 117).map (fun i => (i.zero, i.size, i.bytes)) = some (some (.agg #[.int .i64 0, .int .i64 0, .int .i64 0, .int .i64 0, .int .i64 0]), 5, 40) := by kernel_rfl

/-- What Made's first statement leaves: the new program's block g, its list of constants. -/
structure CutM (w : World) (g : Nat) (A1 : Option Addr) (cp1 : Nat) (vars : Int) (A A2 : Option Addr) (n cap m cap2 : Nat) (L : Nat → Nat × Nat) (wr : World) : Prop where
  hg : w.heap.size + 2 ≤ g
  hg2 : g < wr.heap.size
  c0 : wr.cell? ⟨g, 0, none⟩ = some (.int .i64 vars)
  c1 : wr.cell? ⟨g, 1, none⟩ = some (.slice A1 n cp1)
  c2 : wr.cell? ⟨g, 2, none⟩ = some (.slice none 0 0)
  f2 : wr.frozen? ⟨g, 2, none⟩ = false
  p0 : wr.cell? ⟨w.heap.size, 2, none⟩ = some (.slice A2 m cap2)
  own : wr.ownsRow (w.heap.size + 2) 31 2 (.slice A1 n cp1) n (flatN n 2 (fF L))
  apart : ∀ h, Value.ownBlock (.slice A1 n cp1) = some h → h ≠ g
  bel : Below w.heap.size w wr
  r0 : wr.cell? ⟨w.heap.size + 1, 0, none⟩ = some (.int .i64 0)
  r1 : wr.cell? ⟨w.heap.size + 1, 1, none⟩ = some (.slice none 0 0)
  r2 : wr.cell? ⟨w.heap.size + 1, 2, none⟩ = some (.slice none 0 0)
  rf : ∀ o, wr.frozen? ⟨w.heap.size + 1, o, none⟩ = false

section
variable {w w1 : World} {A1 A A2 : Option Addr} {cp1 n cap m cap2 : Nat} {vars : Int} {L : Nat → Nat × Nat} {o1 o2 : Value}
theorem cutM_after (hp : w1.cell? ⟨w.heap.size, 2, none⟩ = some (.slice A2 m cap2)) (hz : w.heap.size + 1 < w1.heap.size) (ho : w1.ownsRow (w.heap.size + 2) 31 2 (.slice A1 n cp1) n (flatN n 2 (fF L))) (hb : Below w.heap.size w w1)
    (r0 : w1.cell? ⟨w.heap.size + 1, 0, none⟩ = some (.int .i64 0)) (r1 : w1.cell? ⟨w.heap.size + 1, 1, none⟩ = some (.slice none 0 0)) (r2 : w1.cell? ⟨w.heap.size + 1, 2, none⟩ = some (.slice none 0 0)) (rf : ∀ o, w1.frozen? ⟨w.heap.size + 1, o, none⟩ = false) :
    CutM w w1.heap.size A1 cp1 vars A A2 n cap m cap2 L (w1.alloc (.cells #[.int .i64 vars, .slice A1 n cp1, .slice none 0 0] 67)) :=
  ⟨by omega, by simp, by simp, by simp, by simp, by simp [go_sem], by rw [World.cell?_alloc_lt _ _ _ (by simp; omega)]; exact hp, ho.alloc _, fun h hh => by have := own_lt ho hh; omega, hb.alloc hb.size _,
    by rw [World.cell?_alloc_lt _ _ _ (by simp; omega)]; exact r0, by rw [World.cell?_alloc_lt _ _ _ (by simp; omega)]; exact r1, by rw [World.cell?_alloc_lt _ _ _ (by simp; omega)]; exact r2,
    fun o => by rw [World.frozen?_alloc_past _ _ _ (by omega)]; exact rf o⟩

theorem cutM_before (hp : w1.cell? ⟨w.heap.size, 2, none⟩ = some (.slice A2 m cap2)) (hz : w.heap.size + 1 + 1 < w1.heap.size)
    (q0 : w1.cell? ⟨w.heap.size + 1 + 1, 0, none⟩ = some (.int .i64 0)) (q1 : w1.cell? ⟨w.heap.size + 1 + 1, 1, none⟩ = some (.slice none 0 0)) (q2 : w1.cell? ⟨w.heap.size + 1 + 1, 2, none⟩ = some (.slice none 0 0)) (f2 : w1.frozen? ⟨w.heap.size + 1 + 1, 2, none⟩ = false)
    (ho : w1.ownsRow (w.heap.size + 3) 31 2 (.slice A1 n cp1) n (flatN n 2 (fF L))) (hb : Below w.heap.size w w1)
    (r0 : w1.cell? ⟨w.heap.size + 1, 0, none⟩ = some (.int .i64 0)) (r1 : w1.cell? ⟨w.heap.size + 1, 1, none⟩ = some (.slice none 0 0)) (r2 : w1.cell? ⟨w.heap.size + 1, 2, none⟩ = some (.slice none 0 0)) (rf : ∀ o, w1.frozen? ⟨w.heap.size + 1, o, none⟩ = false) :
    CutM w (w.heap.size + 1 + 1) A1 cp1 vars A A2 n cap m cap2 L (((w1.setCell ⟨w.heap.size + 1 + 1, 0, none⟩ (.int .i64 vars)).setCell ⟨w.heap.size + 1 + 1, 1, none⟩ (.slice A1 n cp1)).setCell ⟨w.heap.size + 1 + 1, 2, none⟩ (.slice none 0 0)) := by
  refine ⟨by omega, by simp [World.setCell]; omega, by simp [go_sem, q0], by simp [go_sem, q1], by simp [go_sem, q2], by simp [go_sem, f2], by simp [go_sem, hp], ?_, fun h hh => by have := own_block ho hh; omega, ?_, by simp [go_sem, r0], by simp [go_sem, r1], by simp [go_sem, r2], fun o => by simp [go_sem, rf]⟩
  · exact own_mono (ownsRow_setCell_below (ownsRow_setCell_below (ownsRow_setCell_below ho (by simp) _) (by simp) _) (by simp) _) (by omega)
  · exact ((hb.setCell (by simp; omega) _).setCell (by simp; omega) _).setCell (by simp; omega) _
end

/-- What holds at the head of each round of Made's loop: k lines are there. -/
structure RelM (w : World) (g : Nat) (A1 : Option Addr) (cp1 : Nat) (vars : Int) (A2 : Option Addr) (n m cap2 : Nat) (L : Nat → Nat × Nat) (C : Nat → Nat → Int) (k : Nat) (wr : World) : Prop where
  hg : w.heap.size + 2 ≤ g
  hg2 : g < wr.heap.size
  c0 : wr.cell? ⟨g, 0, none⟩ = some (.int .i64 vars)
  c1 : wr.cell? ⟨g, 1, none⟩ = some (.slice A1 n cp1)
  f2 : wr.frozen? ⟨g, 2, none⟩ = false
  p0 : wr.cell? ⟨w.heap.size, 2, none⟩ = some (.slice A2 m cap2)
  own : wr.ownsRow (w.heap.size + 2) 31 2 (.slice A1 n cp1) n (flatN n 2 (fF L))
  apart : ∀ h, Value.ownBlock (.slice A1 n cp1) = some h → h ≠ g
  bel : Below w.heap.size w wr
  r0 : wr.cell? ⟨w.heap.size + 1, 0, none⟩ = some (.int .i64 0)
  r1 : wr.cell? ⟨w.heap.size + 1, 1, none⟩ = some (.slice none 0 0)
  r2 : wr.cell? ⟨w.heap.size + 1, 2, none⟩ = some (.slice none 0 0)
  rf : ∀ o, wr.frozen? ⟨w.heap.size + 1, o, none⟩ = false
  code : ∃ A' cp', wr.cell? ⟨g, 2, none⟩ = some (.slice A' k cp') ∧ wr.ownsRow (g + 1) 117 5 (.slice A' k cp') k (flatN k 5 (fI C))

theorem CutM.start {w wr : World} {g : Nat} {A1 A A2 : Option Addr} {cp1 n cap m cap2 : Nat} {vars : Int} {L : Nat → Nat × Nat} {C : Nat → Nat → Int} (h : CutM w g A1 cp1 vars A A2 n cap m cap2 L wr) :
    RelM w g A1 cp1 vars A2 n m cap2 L C 0 wr :=
  ⟨h.hg, h.hg2, h.c0, h.c1, h.f2, h.p0, h.own, h.apart, h.bel, h.r0, h.r1, h.r2, h.rf, _, _, h.c2, ⟨rfl, Or.inl ⟨rfl, rfl⟩⟩⟩

/-- Two rows of different element types do not share a block. -/
theorem own_types {w : World} {b b' c c' n n' : Nat} {e e' : TypeId} {v v' : Value} {xs xs' : List Value} (h : w.ownsRow b e c v n xs) (h' : w.ownsRow b' e' c' v' n' xs') (he : e ≠ e') : v.ownBlock = none ∨ v.ownBlock ≠ v'.ownBlock := by
  rcases h.2 with ⟨rfl, _⟩ | ⟨g, _, cur, rfl, _, hg, _⟩
  · exact Or.inl rfl
  · rcases h'.2 with ⟨rfl, _⟩ | ⟨g', _, cur', rfl, _, hg', _⟩
    · right; simp [Value.ownBlock]
    · right
      simp only [Value.ownBlock, ne_eq, Option.some.injEq]
      rintro rfl
      rw [hg] at hg'
      simp at hg'
      exact he hg'.2

/-- One round: a local copy of the line, a new one, the append, the store. -/
theorem RelM.step {w wr w2 : World} {g : Nat} {A1 A2 A' : Option Addr} {cp1 n m cap2 k cp' : Nat} {vars : Int} {L : Nat → Nat × Nat} {C : Nat → Nat → Int} {o1 o2 : Obj} {v' : Value}
    (h : RelM w g A1 cp1 vars A2 n m cap2 L C k wr) (hown : wr.ownsRow (g + 1) 117 5 (.slice A' k cp') k (flatN k 5 (fI C)))
    (hown2 : w2.ownsRow (g + 1) 117 5 v' (k + 1) (flatN (k + 1) 5 (fI C))) (hg : ((wr.alloc o1).alloc o2).grownBy w2 (Value.ownBlock (.slice A' k cp'))) :
    RelM w g A1 cp1 vars A2 n m cap2 L C (k + 1) (w2.setCell ⟨g, 2, none⟩ v') := by
  have hkeep : ∀ b, b < wr.heap.size → (∀ h, Value.ownBlock (.slice A' k cp') = some h → h ≠ b) → w2.heap[b]? = wr.heap[b]? := fun b hb hne' => by
    rw [hg.block b (by simp; omega) (fun e => hne' b e.symm rfl), Below.heap_alloc _ _ _ (by simp; omega), Below.heap_alloc _ _ _ hb]
  have hge : ∀ h, Value.ownBlock (.slice A' k cp') = some h → g + 1 ≤ h := fun h hh => own_block hown hh
  have hap : ∀ h, Value.ownBlock (.slice A' k cp') = some h → h ≠ g := fun h hh => by have := hge h hh; omega
  have hne : ∀ h, v'.ownBlock = some h → h ≠ g := fun h hh => by have := own_block hown2 hh; omega
  have hwr := h.bel.size
  have hg2 := h.hg2
  have hgg := h.hg
  have hsz := hg.size
  simp at hsz
  have cell : ∀ b o, b < wr.heap.size → (∀ h, Value.ownBlock (.slice A' k cp') = some h → h ≠ b) → w2.cell? ⟨b, o, none⟩ = wr.cell? ⟨b, o, none⟩ := fun b o hb hn => World.cell?_of_block (hkeep b hb hn)
  have froz : ∀ b o, b < wr.heap.size → (∀ h, Value.ownBlock (.slice A' k cp') = some h → h ≠ b) → w2.frozen? ⟨b, o, none⟩ = wr.frozen? ⟨b, o, none⟩ := fun b o hb hn => World.frozen?_of_block (hkeep b hb hn)
  have low : ∀ b, b < w.heap.size + 2 → ∀ h, Value.ownBlock (.slice A' k cp') = some h → h ≠ b := fun b hb h hh => by have := hge h hh; omega
  have oth : ∀ b o, b ≠ g → (w2.setCell ⟨g, 2, none⟩ v').cell? ⟨b, o, none⟩ = w2.cell? ⟨b, o, none⟩ := fun b o hb => World.cell?_setCell_other w2 _ _ _ (by intro e; injection e with e1; omega)
  have frz : ∀ b o, (w2.setCell ⟨g, 2, none⟩ v').frozen? ⟨b, o, none⟩ = w2.frozen? ⟨b, o, none⟩ := fun b o => by simp [go_sem]
  have own1 : w2.ownsRow (w.heap.size + 2) 31 2 (.slice A1 n cp1) n (flatN n 2 (fF L)) :=
    ((h.own.alloc o1).alloc o2).kept hg (own_types h.own hown (by decide))
  have stored : ∀ {B : Nat} {e : TypeId} {c n' : Nat} {u : Value} {xs : List Value}, w2.ownsRow B e c u n' xs → (∀ h, u.ownBlock = some h → h ≠ g) → (w2.setCell ⟨g, 2, none⟩ v').ownsRow B e c u n' xs := by
    intro B e c n' u xs ho hn
    refine ⟨ho.1, ?_⟩
    rcases ho.2 with h0 | ⟨b, cp, cur, hv, h1, h2, h3⟩
    · exact Or.inl h0
    · refine Or.inr ⟨b, cp, cur, hv, h1, ?_, h3⟩
      rw [Below.heap_setCell _ _ _ _ (by subst hv; exact hn b rfl)]
      exact h2
  obtain ⟨x2, hx2⟩ : ∃ x, wr.cell? ⟨g, 2, none⟩ = some x := by obtain ⟨_, _, hc, _⟩ := h.code; exact ⟨_, hc⟩
  have hw2 : w2.cell? ⟨g, 2, none⟩ = some x2 := by rw [cell g 2 hg2 hap]; exact hx2
  obtain ⟨An, cpn, rfl⟩ := own_form hown2
  refine ⟨hgg, by simp [World.setCell]; omega, ?_, ?_, ?_, ?_, stored own1 h.apart, h.apart, ?_, ?_, ?_, ?_, ?_, An, cpn, ?_, stored hown2 hne⟩
  · rw [World.cell?_setCell_other w2 _ _ _ (by intro e; injection e with e1 e2; omega), cell g 0 hg2 hap]; exact h.c0
  · rw [World.cell?_setCell_other w2 _ _ _ (by intro e; injection e with e1 e2; omega), cell g 1 hg2 hap]; exact h.c1
  · rw [frz, froz g 2 hg2 hap]; exact h.f2
  · rw [oth _ _ (by omega), cell _ _ (by omega) (low _ (by omega))]; exact h.p0
  · refine Below.setCell (h.bel.trans ⟨?_, ?_, ?_, ?_, ?_⟩) (by simp; omega) _
    · exact hg.os
    · exact hg.tape
    · exact hg.output
    · omega
    · intro b hb; exact hkeep b (by omega) (low b (by omega))
  · rw [oth _ _ (by omega), cell _ _ (by omega) (low _ (by omega))]; exact h.r0
  · rw [oth _ _ (by omega), cell _ _ (by omega) (low _ (by omega))]; exact h.r1
  · rw [oth _ _ (by omega), cell _ _ (by omega) (low _ (by omega))]; exact h.r2
  · intro o; rw [frz, froz _ _ (by omega) (low _ (by omega))]; exact h.rf o
  · simp [go_sem, hw2]

/-- The new program's block behind the append. -/
theorem RelM.at_g {w wr w2 : World} {g : Nat} {A1 A2 A' : Option Addr} {cp1 n m cap2 k cp' : Nat} {vars : Int} {L : Nat → Nat × Nat} {C : Nat → Nat → Int} {o1 o2 : Obj} {x : Value}
    (h : RelM w g A1 cp1 vars A2 n m cap2 L C k wr) (hown : wr.ownsRow (g + 1) 117 5 (.slice A' k cp') k (flatN k 5 (fI C))) (hc : wr.cell? ⟨g, 2, none⟩ = some x)
    (hg : ((wr.alloc o1).alloc o2).grownBy w2 (Value.ownBlock (.slice A' k cp'))) : w2.cell? ⟨g, 2, none⟩ = some x ∧ w2.frozen? ⟨g, 2, none⟩ = false := by
  have hg2 := h.hg2
  have hb : w2.heap[g]? = wr.heap[g]? := by
    rw [hg.block g (by simp; omega) (fun e => by have := own_block hown e.symm; omega), Below.heap_alloc _ _ _ (by simp; omega), Below.heap_alloc _ _ _ hg2]
  exact ⟨(World.cell?_of_block (a := ⟨g, 2, none⟩) hb).trans hc, (World.frozen?_of_block (a := ⟨g, 2, none⟩) hb).trans h.f2⟩

/-- What Made answers: its lists are the call's own. -/
def MadeP (vars : Int) (n m : Nat) (L : Nat → Nat × Nat) (C : Nat → Nat → Int) (w : World) (e : Ending) (w' : World) : Prop :=
  ∃ A1 cp1 A2 cp2, e = .returned (.agg #[.int .i64 vars, .slice A1 n cp1, .slice A2 m cp2]) ∧ w'.ownsRow w.heap.size 31 2 (.slice A1 n cp1) n (flatN n 2 (fF L)) ∧
    w'.ownsRow w.heap.size 117 5 (.slice A2 m cp2) m (flatN m 5 (fI C)) ∧ Below w.heap.size w w'

theorem RelM.fin {w wr : World} {g : Nat} {A1 A2 A' : Option Addr} {cp1 n m cap2 cp' : Nat} {vars : Int} {L : Nat → Nat × Nat} {C : Nat → Nat → Int} {a b c : Value}
    (h : RelM w g A1 cp1 vars A2 n m cap2 L C m wr) (hown : wr.ownsRow (g + 1) 117 5 (.slice A' m cp') m (flatN m 5 (fI C))) :
    MadeP vars n m L C w (.returned (.agg #[.int .i64 vars, .slice A1 n cp1, .slice A' m cp'])) (((wr.setCell ⟨w.heap.size + 1, 0, none⟩ a).setCell ⟨w.heap.size + 1, 1, none⟩ b).setCell ⟨w.heap.size + 1, 2, none⟩ c) := by
  have hg := h.hg
  refine ⟨A1, cp1, A', cp', rfl, ?_, ?_, ?_⟩
  · exact own_mono (ownsRow_setCell_below (ownsRow_setCell_below (ownsRow_setCell_below h.own (by simp) _) (by simp) _) (by simp) _) (by omega)
  · exact own_mono (ownsRow_setCell_below (ownsRow_setCell_below (ownsRow_setCell_below hown (by simp; omega) _) (by simp; omega) _) (by simp; omega) _) (by omega)
  · exact ((h.bel.setCell (by simp) _).setCell (by simp) _).setCell (by simp) _

end Go.Proofs.Ytamaeggkpdgaiaa
