/- Arguments opened: a slice of structs of whole numbers reads as a table of numbers. No program in sight. -/
import Derived.Test.YtamaeggkpdgaiaaGc
import Derived.Deep.Slices
import Derived.Deep.Fields
import Derived.ChangeSame
import Derived.ProofKit
import Derived.OpenShut
import Derived.SizedLaws
import Derived.Lib.SmallJoins
namespace Go.Proofs.Ytamaeggkpdgaiaa
open Go.ChangeShapes Go.WideShapes Go.Deep Go.RowKit

section
variable {H : Type} {enc : TypeId × Value → H} {P : Program} {w : World} {base : Nat} {spare : Nat → Bool} {held : Bool}

theorem cell_lt {w : World} {b o : Nat} {v : Value} (h : w.cell? ⟨b, o, none⟩ = some v) : b < w.heap.size := by
  unfold World.cell? at h
  split at h
  · rename_i c t f heq; exact (Array.getElem?_eq_some_iff.1 heq).1
  · cases h

/-- A slice of structs of c whole numbers each. -/
theorem open_table {t e : TypeId} {fs : Array Field} {k : IntKind} {c fuel : Nat} {cs : List Value} {x : DataW H × List MemPlace} (ht : P.underlying t = some (.slice e)) (he : P.underlying e = some (.struct fs))
    (hone : oneCellFields P fs = true) (hC : P.cellsOf e = fs.size) (hc : fs.size = c) (hc0 : 0 < c) (hk : ∀ (j : Nat) (f : Field), fs[j]? = some f → P.underlying f.type = some (.int k))
    (h : DataW.trod enc P w base spare held fuel t cs = some x) :
    ∃ (A : Option Addr) (n cap : Nat) (F : Nat → Nat → Int), cs = [.slice A n cap] ∧ n ≤ cap ∧ cap ≤ maxLen ∧ Shape A n cap ∧ (∀ i < n, ∀ j < c, (Lit.int k (F i j)).wf = true) ∧
      RowN w w.heap.size c A n (fun i j => .int k (F i j)) ∧ ((x.1 = .nil ∧ n = 0) ∨ ∃ el sp, x.1 = .slice el sp ∧ el.length = n) := by
  subst hc
  rcases open_slice ht h with ⟨rfl, rfl⟩ | ⟨a, len, cap, m, fu, D, Pl, rfl, hb, hl, hm, hmm, rfl, hi⟩
  · exact ⟨none, 0, 0, fun _ _ => 0, rfl, Nat.le_refl _, Nat.zero_le _, .inl ⟨rfl, rfl, rfl⟩, fun i hi => absurd hi (by omega), RowN.nil, .inl ⟨rfl, rfl⟩⟩
  · have hlm : len ≤ m := by rw [hmm]; split <;> omega
    have key : ∀ i, i < len → ∃ G : Nat → Int, ∀ j, j < fs.size → w.cell? (a.add (i * fs.size + j)) = some (.int k (G j)) ∧ (Lit.int k (G j)).wf = true := by
      intro i hil
      obtain ⟨cs', hc, ht'⟩ := hi i (by omega)
      rw [hC] at hc
      obtain ⟨ys, n', hn', hy, hlen, hyl, hf⟩ := DataW.trod_struct he ht'
      obtain ⟨_, hcl, hat⟩ := World.cells?_some hc
      have each : ∀ j, j < fs.size → ∃ g, w.cell? (a.add (i * fs.size + j)) = some (.int k g) ∧ (Lit.int k g).wf = true := by
        intro j hj
        have hj' : fs[j]? = some fs[j] := Array.getElem?_eq_getElem hj
        obtain ⟨ho, hkk⟩ := hone_of hone j _ hj'
        have hcell := hat j hj
        have hv : cs'[j]? = some (cs'[j]'(by omega)) := List.getElem?_eq_getElem (by omega)
        have h1 := hf j _ hj'
        rw [ho, hkk] at h1
        have hone' : (cs'.drop j).take 1 = [cs'[j]'(by omega)] := by rw [List.drop_eq_getElem_cons (by omega)]; rfl
        rw [hone'] at h1
        have hys : ys[j]? = some (ys[j]'(by omega)) := List.getElem?_eq_getElem (by omega)
        obtain ⟨g, hg, _, hwf⟩ := DataW.trod_int (hk j _ hj') (h1.trans hys)
        refine ⟨g, ?_, hwf⟩
        rw [← Go.Deep.add_add, hcell, hv]
        simpa using hg
      exact ⟨fun j => if h : j < fs.size then Classical.choose (each j h) else 0, fun j hj => by simp only [dif_pos hj]; exact Classical.choose_spec (each j hj)⟩
    refine ⟨some a, len, cap, fun i j => if h : i < len then Classical.choose (key i h) j else 0, rfl, hl, hm, .inr ⟨_, rfl⟩, fun i hil j hj => ?_, fun hn => ?_, .inr ⟨_, _, rfl, by simp⟩⟩
    · simp only [dif_pos hil]; exact (Classical.choose_spec (key i hil) j hj).2
    · have hcells : ∀ i < len, ∀ j < fs.size, w.cell? (a.add (i * fs.size + j)) = some (.int k (if h : i < len then Classical.choose (key i h) j else 0)) := fun i hil j hj => by
        simp only [dif_pos hil]; exact (Classical.choose_spec (key i hil) j hj).1
      obtain ⟨b, off, spot⟩ := a
      have hspot : spot = none := by
        have := hcells 0 hn 0 hc0
        simp [Addr.add] at this
        exact World.cell?_spot this
      subst hspot
      have h2 : ∀ i < len, ∀ j < fs.size, w.cell? ⟨b, off + i * fs.size + j, none⟩ = some (.int k (if h : i < len then Classical.choose (key i h) j else 0)) := fun i hil j hj => by
        have := hcells i hil j hj
        rw [Go.WideShapes.add_plain] at this
        rw [Nat.add_assoc]; exact this
      exact ⟨b, off, rfl, cell_lt (h2 0 hn 0 hc0), h2⟩

/-- The reach, at a slice among a struct's fields: its weight is one of those that the form bounds. -/
theorem weights_slice {t e : TypeId} {n b : Nat} {d : DataW H} (ht : P.underlying t = some (.slice e)) (hb : P.bytesOf e = b) (hd : (d = .nil ∧ n = 0) ∨ ∃ el sp, d = .slice el sp ∧ el.length = n)
    (h : ∀ x ∈ DataW.weights P t d, x ≤ reachBytes) : n * b ≤ 140737488351232 := by
  rcases hd with ⟨rfl, rfl⟩ | ⟨el, sp, rfl, rfl⟩
  · simp
  · simp only [DataW.weights, ht, hb] at h
    have := h ((el.length + sp.length) * b) (by simp)
    have h2 : el.length * b ≤ (el.length + sp.length) * b := Nat.mul_le_mul_right _ (by omega)
    unfold reachBytes at this
    omega

theorem all2 {P : Program} {f0 f1 : Field} {u : Option TypeDesc} (h0 : P.underlying f0.type = u) (h1 : P.underlying f1.type = u) : ∀ (j : Nat) (f : Field), #[f0, f1][j]? = some f → P.underlying f.type = u := by
  intro j f hj
  match j with
  | 0 => simp at hj; subst hj; exact h0
  | 1 => simp at hj; subst hj; exact h1
  | j + 2 => simp at hj
theorem all5 {P : Program} {f0 f1 f2 f3 f4 : Field} {u : Option TypeDesc} (h0 : P.underlying f0.type = u) (h1 : P.underlying f1.type = u) (h2 : P.underlying f2.type = u) (h3 : P.underlying f3.type = u) (h4 : P.underlying f4.type = u) : ∀ (j : Nat) (f : Field), #[f0, f1, f2, f3, f4][j]? = some f → P.underlying f.type = u := by
  intro j f hj
  match j with
  | 0 => simp at hj; subst hj; exact h0
  | 1 => simp at hj; subst hj; exact h1
  | 2 => simp at hj; subst hj; exact h2
  | 3 => simp at hj; subst hj; exact h3
  | 4 => simp at hj; subst hj; exact h4
  | j + 5 => simp at hj
end

theorem RowN.congr {w : World} {B c n : Nat} {A : Option Addr} {F G : Nat → Nat → Value} (h : RowN w B c A n F) (e : ∀ i < n, ∀ j < c, F i j = G i j) : RowN w B c A n G := fun hn => by
  obtain ⟨b, off, ea, hb, hc⟩ := h hn
  exact ⟨b, off, ea, hb, fun i hi j hj => by rw [← e i hi j hj]; exact hc i hi j hj⟩

/-- Two columns of words. -/
theorem words2 {n : Nat} {F : Nat → Nat → Int} (h : ∀ i < n, ∀ j < 2, (Lit.int .u64 (F i j)).wf = true) : ∀ i < n, W64 ((fun i => ((F i 0).toNat, (F i 1).toNat)) i).1 ∧ W64 ((fun i => ((F i 0).toNat, (F i 1).toNat)) i).2 := fun i hi => by
  have a := bounds_u64 (h i hi 0 (by omega)); have b := bounds_u64 (h i hi 1 (by omega))
  unfold W64
  exact ⟨by simp; omega, by simp; omega⟩
end Go.Proofs.Ytamaeggkpdgaiaa
