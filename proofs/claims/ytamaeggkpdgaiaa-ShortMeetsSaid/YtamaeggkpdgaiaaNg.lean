/- Arrays of words that a call has made and writes: their number. Plain facts. -/
import Derived.Test.YtamaeggkpdgaiaaNe
import Derived.OwnWalk
namespace Go.Proofs.Ytamaeggkpdgaiaa
open Go.RowKit

/-- The block g is an array of n words of the call's own, that reads as L. -/
def ArrN (w : World) (E g n L : Nat) : Prop := L < 4294967296 ^ n ∧ w.ownsRow 0 E 1 (.slice (some ⟨g, 0, none⟩) n n) n ((List.range n).map fun i => .int .u32 (dig L i : Int))

theorem natV_mono {n m N : Nat} (h : N < 4294967296 ^ n) (hnm : n ≤ m) : N < 4294967296 ^ m := Nat.lt_of_lt_of_le h (Nat.pow_le_pow_right (by decide) hnm)

theorem ArrN.made {w : World} {E g n : Nat} (h : w.ownsRow 0 E 1 (.slice (some ⟨g, 0, none⟩) n n) n (madeCells #[.int .u32 0] n).toList) : ArrN w E g n 0 := by
  refine ⟨bbp n, ?_⟩
  rw [toList_madeCells_one] at h
  have e : (List.range n).map (fun i => Value.int .u32 (dig 0 i : Int)) = List.replicate n (.int .u32 0) := by
    apply List.ext_getElem
    · simp
    · intro i h1 h2; simp [dig]
  rw [e]; exact h
theorem ArrN.lt {w : World} {E g n L : Nat} (h : ArrN w E g n L) : g < w.heap.size := by
  rcases h.2.2 with ⟨hv, _⟩ | ⟨g', cp, cur, hv, _, hg, _⟩
  · simp at hv
  · simp only [Value.slice.injEq, Option.some.injEq, Addr.mk.injEq, and_true, true_and] at hv
    obtain ⟨rfl, rfl⟩ := hv
    exact (Array.getElem?_eq_some_iff.1 hg).1
theorem ArrN.cell {w : World} {E g n L : Nat} (h : ArrN w E g n L) {i : Nat} (hi : i < n) : w.cell? ⟨g, i, none⟩ = some (.int .u32 (dig L i : Int)) := by
  rw [h.2.cellAt i (by omega)]; simp [hi]
theorem ArrN.frozen {w : World} {E g n L : Nat} (h : ArrN w E g n L) (i : Nat) : w.frozen? ⟨g, i, none⟩ = false := h.2.frozenAt i
theorem ArrN.below {w w' : World} {E g n L B : Nat} (h : ArrN w E g n L) (hb : Below B w w') (hg : g < B) : ArrN w' E g n L := by
  refine ⟨h.1, h.2.1, ?_⟩
  rcases h.2.2 with ⟨hv, _⟩ | ⟨g', cp, cur, hv, h1, hg', h2⟩
  · simp at hv
  · have e := hv
    simp only [Value.slice.injEq, Option.some.injEq, Addr.mk.injEq, and_true, true_and] at e
    obtain ⟨rfl, rfl⟩ := e
    exact .inr ⟨g, n, cur, rfl, h1, by rw [hb.block g hg]; exact hg', h2⟩
theorem ArrN.num {w : World} {E g n L : Nat} (h : ArrN w E g n L) : NumR w w.heap.size (some ⟨g, 0, none⟩) n L :=
  ⟨h.1, fun _ => ⟨g, 0, rfl, h.lt, fun i hi j hj => by obtain rfl : j = 0 := by omega
                                                       rw [show 0 + i * 1 + 0 = i from by omega]; exact h.cell hi⟩⟩

/-- The words of a number whose word j has been written over. -/
theorem ArrN.put {w : World} {E g n L L' j v : Nat} (h : ArrN w E g n L) (hL : L' < 4294967296 ^ n) (hj : dig L' j = v) (ho : ∀ i < n, i ≠ j → dig L' i = dig L i) :
    ArrN (w.setCell ⟨g, j, none⟩ (.int .u32 (v : Int))) E g n L' := by
  refine ⟨hL, ?_⟩
  have h2 := (h.2.stored j (.int .u32 (v : Int))).1
  have e : ((List.range n).map fun i => Value.int .u32 (dig L i : Int)).set j (.int .u32 (v : Int)) = (List.range n).map fun i => .int .u32 (dig L' i : Int) := by
    apply List.ext_getElem
    · simp
    · intro i h1 h3
      simp only [List.length_set, List.length_map, List.length_range] at h1
      rw [List.getElem_set]
      by_cases hij : j = i
      · subst hij; simp [hj]
      · rw [if_neg hij]; simp [ho i h1 (by omega)]
  rw [e] at h2
  exact h2
/-- The number whose word j is v, all others L's. -/
def setD (L j v : Nat) : Nat := L - dig L j * 4294967296 ^ j + v * 4294967296 ^ j
theorem setD_split (L j v : Nat) : setD L j v = L % 4294967296 ^ j + v * 4294967296 ^ j + L / 4294967296 ^ (j + 1) * 4294967296 ^ (j + 1) := by
  unfold setD
  have h1 : L = L % 4294967296 ^ j + dig L j * 4294967296 ^ j + L / 4294967296 ^ (j + 1) * 4294967296 ^ (j + 1) := by
    rw [← mod_succ]; exact (Nat.mod_add_div' _ _).symm
  have h2 : dig L j * 4294967296 ^ j ≤ L := by omega
  omega
theorem setD_lt {L n j v : Nat} (h : L < 4294967296 ^ n) (hj : j < n) (hv : v < 4294967296) : setD L j v < 4294967296 ^ n := by
  obtain ⟨k, rfl⟩ : ∃ k, n = j + 1 + k := ⟨n - j - 1, by omega⟩
  have h1 := Nat.mod_lt L (bbp j)
  have h2 : L / 4294967296 ^ (j + 1) < 4294967296 ^ k := by rw [Nat.div_lt_iff_lt_mul (bbp _), ← Nat.pow_add, Nat.add_comm]; exact h
  have h3 : L % 4294967296 ^ j + v * 4294967296 ^ j < 4294967296 ^ (j + 1) := by
    rw [Nat.pow_succ]
    have : v * 4294967296 ^ j ≤ 4294967295 * 4294967296 ^ j := Nat.mul_le_mul_right _ (by omega)
    omega
  rw [setD_split, Nat.pow_add _ (j + 1) k]
  have h4 : (L / 4294967296 ^ (j + 1) + 1) * 4294967296 ^ (j + 1) ≤ 4294967296 ^ k * 4294967296 ^ (j + 1) := Nat.mul_le_mul_right _ h2
  rw [Nat.add_mul, Nat.one_mul, Nat.mul_comm (4294967296 ^ k)] at h4
  omega
theorem dig_setD {L j v : Nat} (hv : v < 4294967296) (i : Nat) : dig (setD L j v) i = if i = j then v else dig L i := by
  rw [setD_split]
  by_cases hij : i < j
  · rw [if_neg (by omega)]
    have e : L % 4294967296 ^ j + v * 4294967296 ^ j + L / 4294967296 ^ (j + 1) * 4294967296 ^ (j + 1) = L % 4294967296 ^ j + (v + L / 4294967296 ^ (j + 1) * 4294967296) * 4294967296 ^ j := by
      rw [Nat.add_mul, Nat.pow_succ, Nat.mul_assoc, Nat.mul_comm 4294967296 (4294967296 ^ j), Nat.add_assoc]
    rw [e, ← dig_mod _ hij, Nat.add_mul_mod_self_right, Nat.mod_mod, dig_mod _ hij]
  · have h1 := Nat.mod_lt L (bbp j)
    have h3 : L % 4294967296 ^ j + v * 4294967296 ^ j < 4294967296 ^ (j + 1) := by
      rw [Nat.pow_succ]
      have : v * 4294967296 ^ j ≤ 4294967295 * 4294967296 ^ j := Nat.mul_le_mul_right _ (by omega)
      omega
    by_cases he : i = j
    · subst he
      rw [if_pos rfl, ← dig_mod _ (Nat.lt_succ_self i), Nat.add_mul_mod_self_right, Nat.mod_eq_of_lt h3]
      unfold dig
      rw [Nat.add_mul_div_right _ _ (bbp i), Nat.div_eq_of_lt h1, Nat.zero_add, Nat.mod_eq_of_lt hv]
    · rw [if_neg he]
      obtain ⟨k, rfl⟩ : ∃ k, i = j + 1 + k := ⟨i - j - 1, by omega⟩
      rw [← dig_div, ← dig_div, Nat.add_mul_div_right _ _ (bbp _), Nat.div_eq_of_lt h3, Nat.zero_add]
theorem ArrN.set {w : World} {E g n L j v : Nat} (h : ArrN w E g n L) (hj : j < n) (hv : v < 4294967296) : ArrN (w.setCell ⟨g, j, none⟩ (.int .u32 (v : Int))) E g n (setD L j v) :=
  h.put (setD_lt h.1 hj hv) (by rw [dig_setD hv, if_pos rfl]) fun i _ hi => by rw [dig_setD hv, if_neg hi]
theorem setD_add (L j v : Nat) : setD L j v + dig L j * 4294967296 ^ j = L + v * 4294967296 ^ j := by
  have h1 : L = L % 4294967296 ^ j + dig L j * 4294967296 ^ j + L / 4294967296 ^ (j + 1) * 4294967296 ^ (j + 1) := by
    rw [← mod_succ]; exact (Nat.mod_add_div' _ _).symm
  rw [setD_split]; omega

/-- One word more of a number that is shifted up: what it leaves in the words q + j and q + j + 1. -/
theorem left_low {N q s j : Nat} : N % 4294967296 ^ j * 2 ^ (32 * q + s) < 2 ^ s * 4294967296 ^ (q + j) := by
  rw [Nat.pow_add, ← pow32, Nat.pow_add 4294967296 q j]
  have h := Nat.mod_lt N (bbp j)
  have h1 : N % 4294967296 ^ j * (4294967296 ^ q * 2 ^ s) < 4294967296 ^ j * (4294967296 ^ q * 2 ^ s) := Nat.mul_lt_mul_of_pos_right h (Nat.mul_pos (bbp q) (Nat.two_pow_pos s))
  have e : 4294967296 ^ j * (4294967296 ^ q * 2 ^ s) = 2 ^ s * (4294967296 ^ q * 4294967296 ^ j) := by ac_rfl
  omega
theorem left_carry {N q s j : Nat} : dig (N % 4294967296 ^ j * 2 ^ (32 * q + s)) (q + j) < 2 ^ s := by
  have h := left_low (N := N) (q := q) (s := s) (j := j)
  unfold dig
  have h1 : N % 4294967296 ^ j * 2 ^ (32 * q + s) / 4294967296 ^ (q + j) < 2 ^ s := by rw [Nat.div_lt_iff_lt_mul (bbp _)]; exact h
  exact Nat.lt_of_le_of_lt (Nat.mod_le _ _) h1
theorem left_step {N q s j x c lo hi L : Nat} (hs : s < 32) (hL : N % 4294967296 ^ j * 2 ^ (32 * q + s) = L) (hx : dig N j = x) (hc : dig L (q + j) = c) (hlo : x * 2 ^ s % 4294967296 = lo) (hhi : x * 2 ^ s / 4294967296 = hi) (hcl : c + lo < 4294967296) :
    setD (setD L (q + j) (c + lo)) (q + j + 1) hi = N % 4294967296 ^ (j + 1) * 2 ^ (32 * q + s) := by
  have h1 := setD_add L (q + j) (c + lo)
  have h2 := setD_add (setD L (q + j) (c + lo)) (q + j + 1) hi
  have h3 : dig (setD L (q + j) (c + lo)) (q + j + 1) = 0 := by
    rw [dig_setD hcl, if_neg (by omega)]
    apply dig_high (n := q + j + 1) _ (Nat.le_refl _)
    rw [← hL]
    refine Nat.lt_of_lt_of_le left_low ?_
    rw [Nat.pow_succ, Nat.mul_comm]
    exact Nat.mul_le_mul_left _ (by have : 2 ^ s ≤ 2 ^ 32 := Nat.pow_le_pow_right (by decide) (by omega); simpa using this)
  rw [h3, Nat.zero_mul, Nat.add_zero] at h2
  rw [hc, Nat.add_mul] at h1
  rw [h2, mod_succ, Nat.add_mul, hL, hx]
  have h4 : x * 4294967296 ^ j * 2 ^ (32 * q + s) = x * 2 ^ s * 4294967296 ^ (q + j) := by
    rw [Nat.pow_add, ← pow32, Nat.pow_add 4294967296 q j]; ac_rfl
  have h5 : x * 2 ^ s = lo + 4294967296 * hi := by rw [← hlo, ← hhi]; exact (Nat.mod_add_div _ _).symm
  rw [h4, h5, Nat.pow_succ, Nat.add_mul]
  have h6 : hi * (4294967296 ^ (q + j) * 4294967296) = 4294967296 * hi * 4294967296 ^ (q + j) := by ac_rfl
  omega
theorem or_u32_low {a b : Nat} (i : Nat) (ha : a < 2 ^ i) (hb : b % 2 ^ i = 0) (ha2 : a < 4294967296) (hb2 : b < 4294967296) : bits .or .u32 (a : Int) (b : Int) = ((a + b : Nat) : Int) := by
  rw [u32_or_nat a b ha2 hb2, Nat.or_comm, nat_join i b a hb ha, Nat.add_comm]
end Go.Proofs.Ytamaeggkpdgaiaa
