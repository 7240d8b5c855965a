/- Slices of structs in memory, as functions of the place and the field. No program in sight. -/
import Derived.Test.YtamaeggkpdgaiaaGa
import Derived.Laws.OwnMore
namespace Go.Proofs.Ytamaeggkpdgaiaa
open Go.RowKit

/-- n elements of c cells each, laid out. -/
def flatN (n c : Nat) (F : Nat → Nat → Value) : List Value := (List.range n).flatMap fun i => (List.range c).map (F i)

theorem flatN_zero (c : Nat) (F : Nat → Nat → Value) : flatN 0 c F = [] := rfl
theorem flatN_succ (n c : Nat) (F : Nat → Nat → Value) : flatN (n + 1) c F = flatN n c F ++ (List.range c).map (F n) := by
  unfold flatN; rw [List.range_succ, List.flatMap_append]; simp
theorem flatN_length (n c : Nat) (F : Nat → Nat → Value) : (flatN n c F).length = n * c := by
  induction n with
  | zero => simp [flatN_zero]
  | succ n ih => rw [flatN_succ, List.length_append, ih]; simp [Nat.succ_mul]
theorem flatN_get {n c : Nat} {F : Nat → Nat → Value} {i j : Nat} (hi : i < n) (hj : j < c) : (flatN n c F)[i * c + j]? = some (F i j) := by
  induction n with
  | zero => omega
  | succ n ih =>
    rw [flatN_succ]
    by_cases h : i < n
    · have hl : i * c + j < (flatN n c F).length := by
        rw [flatN_length]
        have : (i + 1) * c ≤ n * c := Nat.mul_le_mul_right _ h
        rw [Nat.add_mul] at this; omega
      rw [List.getElem?_append_left hl]; exact ih h
    · have : i = n := by omega
      subst this
      rw [List.getElem?_append_right (by rw [flatN_length]; omega), flatN_length, Nat.add_sub_cancel_left]
      simp [hj]
theorem flatN_congr {n c : Nat} {F G : Nat → Nat → Value} (h : ∀ i < n, ∀ j < c, F i j = G i j) : flatN n c F = flatN n c G := by
  induction n with
  | zero => rfl
  | succ n ih =>
    rw [flatN_succ, flatN_succ, ih fun i hi => h i (by omega)]
    congr 1
    apply List.map_congr_left
    intro j hj
    exact h n (by omega) j (List.mem_range.1 hj)

/-- The slice '.slice A n _' reads as F, in blocks below B. -/
def RowN (w : World) (B c : Nat) (A : Option Addr) (n : Nat) (F : Nat → Nat → Value) : Prop :=
  0 < n → ∃ b off, A = some ⟨b, off, none⟩ ∧ b < B ∧ ∀ i < n, ∀ j < c, w.cell? ⟨b, off + i * c + j, none⟩ = some (F i j)

theorem RowN.nil {w : World} {B c : Nat} {A : Option Addr} {F : Nat → Nat → Value} : RowN w B c A 0 F := fun h => absurd h (by omega)
theorem RowN.below {w w' : World} {B c n : Nat} {A : Option Addr} {F : Nat → Nat → Value} (h : RowN w B c A n F) (hb : Below B w w') : RowN w' B c A n F := fun hn => by
  obtain ⟨b, off, e, hB, hc⟩ := h hn
  exact ⟨b, off, e, hB, fun i hi j hj => by rw [hb.cell (p := ⟨b, _, none⟩) hB]; exact hc i hi j hj⟩
theorem RowN.more {w : World} {B B' c n : Nat} {A : Option Addr} {F : Nat → Nat → Value} (h : RowN w B c A n F) (hB : B ≤ B') : RowN w B' c A n F := fun hn => by
  obtain ⟨b, off, e, hb, hc⟩ := h hn
  exact ⟨b, off, e, by omega, hc⟩
theorem RowN.below' {w w' : World} {B B' c n : Nat} {A : Option Addr} {F : Nat → Nat → Value} (h : RowN w B c A n F) (hb : Below B' w w') (hB : B ≤ B') : RowN w' B c A n F := h.below (hb.mono hB)

theorem RowN.of_own {w : World} {base c n cap : Nat} {e : TypeId} {A : Option Addr} {F : Nat → Nat → Value} (h : w.ownsRow base e c (.slice A n cap) n (flatN n c F)) : RowN w w.heap.size c A n F := fun hn => by
  have hcell := fun (g : Nat) => h.cells (g := g)
  rcases h.2 with ⟨_, h0⟩ | ⟨g, cp, cur, hv, _, hg, _⟩
  · omega
  · have hA : A = some ⟨g, 0, none⟩ := by injection hv
    subst hA
    have hlt : g < w.heap.size := (Array.getElem?_eq_some_iff.1 hg).1
    refine ⟨g, 0, rfl, hlt, fun i hi j hj => ?_⟩
    have hc := hcell g rfl (i * c + j) _ (flatN_get hi hj)
    rw [Nat.zero_add]
    unfold Addr.add at hc
    generalize i * c + j = q at *
    by_cases h0 : q = 0
    · subst h0; simpa using hc
    · simpa [h0] using hc

/-- An owned row, over a call that leaves what was there. -/
theorem own_below {w w' : World} {base c n : Nat} {e : TypeId} {v : Value} {xs : List Value} (h : w.ownsRow base e c v n xs) (hb : Below w.heap.size w w') : w'.ownsRow base e c v n xs := by
  refine ⟨h.1, ?_⟩
  rcases h.2 with h0 | ⟨g, cp, cur, hv, hg1, hg, hrest⟩
  · exact Or.inl h0
  · have hlt : g < w.heap.size := (Array.getElem?_eq_some_iff.1 hg).1
    exact Or.inr ⟨g, cp, cur, hv, hg1, by rw [hb.block g hlt]; exact hg, hrest⟩

theorem own_block {w : World} {base c n g : Nat} {e : TypeId} {v : Value} {xs : List Value} (h : w.ownsRow base e c v n xs) (hg : v.ownBlock = some g) : base ≤ g := by
  rcases h.2 with ⟨rfl, _⟩ | ⟨g', cp, cur, rfl, hg1, _⟩
  · cases hg
  · have : g' = g := by simpa [Value.ownBlock] using hg
    omega

theorem own_form {w : World} {base c n : Nat} {e : TypeId} {v : Value} {xs : List Value} (h : w.ownsRow base e c v n xs) : ∃ A cap, v = .slice A n cap := by
  rcases h.2 with ⟨rfl, rfl⟩ | ⟨g', cp, cur, rfl, _⟩
  · exact ⟨_, _, rfl⟩
  · exact ⟨_, _, rfl⟩

/-- The cells of a block that has just been laid. -/
theorem new_cells (w : World) (l : List Value) (t : TypeId) : ∀ j u, l[j]? = some u → (w.alloc (.cells l.toArray t)).cell? ((⟨w.heap.size, 0, none⟩ : Addr).add j) = some u := by
  intro j u h
  have e : (⟨w.heap.size, 0, none⟩ : Addr).add j = ⟨w.heap.size, j, none⟩ := by
    unfold Addr.add; by_cases hj : j = 0
    · subst hj; simp
    · simp [hj]
  rw [e]
  unfold World.cell? World.alloc
  simp [h]

/-- What a walk may say of a loop that appends: old memory stands. -/
theorem below_grown {B : Nat} {w wr w1 w2 : World} {o : Obj} {v : Value} {e : TypeId} {c n : Nat} {xs : List Value} (h0 : Below B w wr) (hb : Below wr.heap.size wr w1) (hB : B ≤ wr.heap.size)
    (ho : w1.ownsRow B e c v n xs) (hg : (w1.alloc o).grownBy w2 v.ownBlock) : Below B w w2 := by
  have h1 : Below B w w1 := h0.trans (hb.mono hB)
  have hs := hb.size
  have h2 : Below B w (w1.alloc o) := h1.alloc (by omega) o
  exact h2.grown hg (by simp; omega) fun k hk => own_block ho hk

theorem own_mono {w : World} {base base' c n : Nat} {e : TypeId} {v : Value} {xs : List Value} (h : w.ownsRow base e c v n xs) (hb : base' ≤ base) : w.ownsRow base' e c v n xs := by
  refine ⟨h.1, ?_⟩
  rcases h.2 with h0 | ⟨g', cp, cur, hv, hg1, hr⟩
  · exact Or.inl h0
  · exact Or.inr ⟨g', cp, cur, hv, by omega, hr⟩
theorem own_lt {w : World} {base c n g : Nat} {e : TypeId} {v : Value} {xs : List Value} (h : w.ownsRow base e c v n xs) (hg : v.ownBlock = some g) : g < w.heap.size := by
  rcases h.2 with ⟨rfl, _⟩ | ⟨g', cp, cur, rfl, _, hh, _⟩
  · cases hg
  · have : g' = g := by simpa [Value.ownBlock] using hg
    subst this
    exact (Array.getElem?_eq_some_iff.1 hh).1

end Go.Proofs.Ytamaeggkpdgaiaa
