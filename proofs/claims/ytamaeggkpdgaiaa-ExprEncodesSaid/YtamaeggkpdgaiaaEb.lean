/- The program's bytes of an interval: pack.number, pack.put, pack.Put. -/
import Derived.Test.YtamaeggkpdgaiaaEa
import Derived.Test.YtamaeggkpdgaiaaWp
import Derived.Deep.MidRow
import Derived.Laws.CopyOwn
namespace Go.Proofs.Ytamaeggkpdgaiaa
open Go.RowKit

/-- The world in which k bytes of x stand in block g, from offset o on. -/
def setB (w : World) (g o x : Nat) : Nat → World
  | 0 => w
  | k + 1 => (setB w g o x k).setCell ⟨g, o + k, none⟩ (.int .u8 ((x / 256 ^ k % 256 : Nat) : Int))
theorem setB_size (w : World) (g o x k : Nat) : (setB w g o x k).heap.size = w.heap.size := by
  induction k with
  | zero => rfl
  | succ k ih => show (World.setCell _ _ _).heap.size = _; rw [World.size_setCell, ih]
theorem setB_frozen (w : World) (g o x k : Nat) (a : Addr) : (setB w g o x k).frozen? a = w.frozen? a := by
  induction k with
  | zero => rfl
  | succ k ih => show (World.setCell _ _ _).frozen? _ = _; rw [World.frozen?_setCell, ih]
theorem setB_far (w : World) (g o x k : Nat) (a : Addr) (h : a.block ≠ g ∨ a.off < o ∨ o + k ≤ a.off) : (setB w g o x k).cell? a = w.cell? a := by
  induction k with
  | zero => rfl
  | succ k ih =>
    show (World.setCell _ _ _).cell? _ = _
    rw [World.cell?_setCell_other _ _ _ _ (by
      intro e
      rw [← e] at h
      simp at h
      omega), ih (by omega)]
theorem setB_at (w : World) (g o x k : Nat) (hc : ∀ j, j < k → (w.cell? ⟨g, o + j, none⟩).isSome = true) : ∀ j, j < k → (setB w g o x k).cell? ⟨g, o + j, none⟩ = some (.int .u8 ((x / 256 ^ j % 256 : Nat) : Int)) := by
  induction k with
  | zero => intro j hj; omega
  | succ k ih =>
    intro j hj
    show (World.setCell _ _ _).cell? _ = _
    rcases Nat.lt_or_ge j k with h | h
    · rw [World.cell?_setCell_other _ _ _ _ (by intro e; injection e with e1 e2; omega)]
      exact ih (fun j hj => hc j (by omega)) j h
    · have : j = k := by omega
      subst this
      rw [World.cell?_setCell_same' _ _ _ (by rw [setB_far _ _ _ _ _ _ (Or.inr (Or.inr (Nat.le_refl _)))]; exact hc j (by omega))]
theorem setB_below {B : Nat} {a w : World} (h : Below B a w) (g o x k : Nat) (hg : B ≤ g) : Below B a (setB w g o x k) := by
  induction k with
  | zero => exact h
  | succ k ih => exact ih.setCell (by simpa using hg) _

theorem div8 (x k : Nat) : (x : Int) / 2 ^ (8 * k) = ((x / 256 ^ k : Nat) : Int) := by
  rw [show (256 : Nat) ^ k = 2 ^ (8 * k) from by rw [Nat.pow_mul]]; simp

set_option maxRecDepth 100000 in
set_option maxHeartbeats 400000 in
theorem number_any (g o cap x : Nat) (w : World) (hc : ∀ j, j < 8 → (w.cell? ⟨g, o + j, none⟩).isSome = true) (hf : ∀ j, j < 8 → w.frozen? ⟨g, o + j, none⟩ = false) :
    Calls Try.prog 148 #[.slice (some ⟨g, o, none⟩) 8 cap, .float .f64 x] w fun e w' => (∃ v, e = .returned v) ∧ w' = setB w g o x 8 := by
  have HC := Lib.hid hc; have HF := Lib.hid hf; clear hc hf
  go_enter Try.func148, Try.ntmps148
  go_wp2
  go_loopw [8] (fun v wr => ∃ k : Nat, k ≤ 8 ∧ v = .int .i64 (k : Int) ∧ Hid (wr = setB w g o x k)) (fun v _ => 8 - (intOf v).toNat)
  case atStart => exact ⟨0, by omega, rfl, Lib.hid rfl⟩
  case round =>
    obtain ⟨k, hk, rfl, H⟩ := hrel
    by_cases hlt : k < 8
    · have hlt' : (k : Int) < 8 := by omega
      obtain ⟨z, hz⟩ : ∃ z : Int, ((x / 256 ^ k % 256 : Nat) : Int) = z := ⟨_, rfl⟩
      have hb : (x : Int) / 2 ^ (8 * k) % 256 = z := by rw [← hz, div8]; omega
      have hc0 : (wr.cell? ⟨g, o + k, none⟩).isSome = true := by rw [H.out, setB_far _ _ _ _ _ _ (Or.inr (Or.inr (Nat.le_refl _)))]; exact HC.out k hlt
      obtain ⟨u, hu⟩ := Option.isSome_iff_exists.1 hc0
      have hf0 : wr.frozen? ⟨g, o + k, none⟩ = false := by rw [H.out, setB_frozen]; exact HF.out k hlt
      have H2 : Hid (wr.setCell ⟨g, o + k, none⟩ (.int .u8 z) = setB w g o x (k + 1)) := Lib.hid (by rw [H.out, ← hz]; rfl)
      clear hc0 hz
      go_wp2
      go_roundw
      case rel => exact ⟨k + 1, by omega, by go_num, H2⟩
      case measure => simp [intOf]; omega
    · have : k = 8 := by omega
      subst this
      go_wp2
      go_end0
      exact ⟨⟨_, rfl⟩, H.out⟩

theorem frozen_box {t : TypeId} (w w' : World) (l : List Value) (h : Below (w.heap.size + 1) (w.alloc (.cells l.toArray t)) w') (o : Nat) : w'.frozen? ⟨w.heap.size, o, none⟩ = false := by
  rw [h.frozen (p := ⟨w.heap.size, o, none⟩) (by simp)]
  unfold World.frozen? World.alloc
  simp
/-- Sixteen bytes, all 0. -/
def Z16 : List Value := [.int .u8 0, .int .u8 0, .int .u8 0, .int .u8 0, .int .u8 0, .int .u8 0, .int .u8 0, .int .u8 0, .int .u8 0, .int .u8 0, .int .u8 0, .int .u8 0, .int .u8 0, .int .u8 0, .int .u8 0, .int .u8 0]
theorem z16_at {j : Nat} (h : j < 16) : Z16[j]? = some (.int .u8 0) := by
  rw [show Z16 = List.replicate 16 (.int .u8 0) from rfl, List.getElem?_replicate, if_pos h]
theorem info16 : (Try.prog.info? 189).map (·.size) = some 16 := by kernel_rfl
theorem le16_length (x y : Nat) : (leK x 8 ++ leK y 8).length = 16 := by unfold leK; simp
theorem le16_at (x y j : Nat) (v : Value) (h : (bv (leK x 8 ++ leK y 8))[j]? = some v) : (j < 8 ∧ v = .int .u8 ((x / 256 ^ j % 256 : Nat) : Int)) ∨ ∃ i, i < 8 ∧ j = 8 + i ∧ v = .int .u8 ((y / 256 ^ i % 256 : Nat) : Int) := by
  have hl : (bv (leK x 8)).length = 8 := by unfold bv leK; simp
  rw [bv_append] at h
  rcases Nat.lt_or_ge j 8 with hj | hj
  · rw [List.getElem?_append_left (by omega)] at h
    unfold bv leK at h
    simp [List.getElem?_range hj] at h
    exact Or.inl ⟨hj, by rw [← h]; simp⟩
  · rw [List.getElem?_append_right (by omega), hl] at h
    have hj2 : j - 8 < 8 := by
      have := (List.getElem?_eq_some_iff.1 h).1
      unfold bv leK at this; simp at this; exact this
    unfold bv leK at h
    simp [List.getElem?_range hj2] at h
    exact Or.inr ⟨j - 8, hj2, by omega, by rw [← h]; simp⟩

theorem below_setCells {B : Nat} {a : World} (b : Nat) (hb : B ≤ b) : ∀ (vs : List Value) (o : Nat) (w : World), Below B a w → Below B a (w.setCells b o vs)
  | [], _, _, h => h
  | v :: vs, o, _, h => below_setCells b hb vs (o + 1) _ (h.setCell (p := ⟨b, o, none⟩) hb v)

set_option maxRecDepth 100000 in
set_option maxHeartbeats 1000000 in
theorem put_any (x y : Nat) (w : World) :
    Calls Try.prog 116 #[.agg #[.float .f64 x, .float .f64 y]] w fun e w' => e = .returned (.agg (bv (leK x 8 ++ leK y 8)).toArray) ∧ Below w.heap.size w w' := by
  go_enter Try.func116, Try.ntmps116
  go_wp2_with fail
  obtain ⟨V1, hV1⟩ : ∃ V : World, V = w.alloc (.cells #[.float .f64 x, .float .f64 y] 31) := ⟨_, rfl⟩
  obtain ⟨V2, hV2⟩ : ∃ V : World, V = V1.alloc (.cells #[.int .u8 0, .int .u8 0, .int .u8 0, .int .u8 0, .int .u8 0, .int .u8 0, .int .u8 0, .int .u8 0, .int .u8 0, .int .u8 0, .int .u8 0, .int .u8 0, .int .u8 0, .int .u8 0, .int .u8 0, .int .u8 0] 189) := ⟨_, rfl⟩
  obtain ⟨V3, hV3⟩ : ∃ V : World, V = V2.alloc (.cells #[.int .u8 0, .int .u8 0, .int .u8 0, .int .u8 0, .int .u8 0, .int .u8 0, .int .u8 0, .int .u8 0, .int .u8 0, .int .u8 0, .int .u8 0, .int .u8 0, .int .u8 0, .int .u8 0, .int .u8 0, .int .u8 0] 189) := ⟨_, rfl⟩
  have s1 : V1.heap.size = w.heap.size + 1 := by rw [hV1]; simp
  have s2 : V2.heap.size = w.heap.size + 2 := by rw [hV2]; simp; omega
  have s3 : V3.heap.size = w.heap.size + 3 := by rw [hV3]; simp; omega
  have F3 : Hid (∀ w', Below (w.heap.size + 3) V3 w' → Below w.heap.size w w' ∧ (w'.cell? ⟨w.heap.size, 0, none⟩ = some (.float .f64 x) ∧ w'.cell? ⟨w.heap.size, 1, none⟩ = some (.float .f64 y)) ∧
      (∀ j, j < 16 → w'.cell? ⟨w.heap.size + 1, j, none⟩ = some (.int .u8 0)) ∧ (∀ j, w'.frozen? ⟨w.heap.size + 1, j, none⟩ = false) ∧ (∀ j, j < 16 → w'.cell? ⟨w.heap.size + 2, j, none⟩ = some (.int .u8 0)) ∧ ∀ j, w'.frozen? ⟨w.heap.size + 2, j, none⟩ = false) := Lib.hid (by
    intro w' h
    have h3 : Below (V2.heap.size + 1) (V2.alloc (.cells Z16.toArray 189)) w' := by rw [s2]; exact (show V3 = _ from hV3) ▸ h
    have h2 : Below (V1.heap.size + 1) (V1.alloc (.cells Z16.toArray 189)) w' := by
      have : V2 = V1.alloc (.cells Z16.toArray 189) := hV2
      rw [← this]
      exact ((Below.refl _ _).alloc (by rw [s1, s2]; omega) _).trans (h3.mono (by rw [s1, s2]; omega))
    have h1 : Below (w.heap.size + 1) (w.alloc (.cells [.float .f64 x, .float .f64 y].toArray 31)) w' := by
      have : V1 = w.alloc (.cells [.float .f64 x, .float .f64 y].toArray 31) := hV1
      rw [← this]
      exact ((Below.refl _ _).alloc (by rw [s1]; exact Nat.le_refl _) _).trans (h2.mono (by rw [s1]; omega))
    have e1 : w.heap.size + 1 = V1.heap.size := s1.symm
    have e2 : w.heap.size + 2 = V2.heap.size := s2.symm
    refine ⟨((Below.refl _ _).alloc (Nat.le_refl _) _).trans (h1.mono (by omega)), ⟨cells_box w w' _ h1 0 _ rfl, cells_box w w' _ h1 1 _ rfl⟩, fun j hj => ?_, fun j => ?_, fun j hj => ?_, fun j => ?_⟩
    · rw [e1]; exact cells_box V1 w' _ h2 j _ (z16_at hj)
    · rw [e1]; exact frozen_box V1 w' _ h2 j
    · rw [e2]; exact cells_box V2 w' _ h3 j _ (z16_at hj)
    · rw [e2]; exact frozen_box V2 w' _ h3 j)
  rw [← hV1, ← hV2, ← hV3]
  clear hV1 hV2 hV3 s1 s2
  obtain ⟨-, ⟨k0, k1⟩, -⟩ := F3.out V3 (Below.refl _ _)
  have l0 : w.heap.size < V3.heap.size := by omega
  refine region_qtail 3 (by kernel_rfl) (by kernel_rfl) ?_
  simp only [List.take_succ_cons, List.take_zero, List.drop_succ_cons, List.drop_zero]
  repeat (refine wpQuiet_step (fun K hK => ?_); go_simp; first | (refine hK _ ?_; clear hK K))
  refine wpQuiet_nil ?_
  intro w1 hb1
  have HZ1 : Hid (Below (w.heap.size + 3) V3 w1) := Lib.hid (hb1.mono (by omega)); clear hb1 k0 k1 l0
  have hs1 : w.heap.size + 3 ≤ w1.heap.size := by have := HZ1.out.size; omega
  have G1 := Lib.hid (F3.out w1 HZ1.out)
  go_wp2_with fail
  refine (number_any (w.heap.size + 1 + 1) 0 8 x w1 (fun j hj => by rw [Nat.zero_add, G1.out.2.2.2.2.1 j (by omega)]; rfl) (fun j hj => by rw [G1.out.2.2.2.2.2])).mono ?_
  rintro e2 w2 ⟨⟨v2, rfl⟩, hw2⟩
  have HW2 := Lib.hid hw2
  have HS2 := Lib.hid (show w2.heap.size = w1.heap.size by rw [hw2, setB_size])
  have k1 : w2.cell? ⟨w.heap.size, 1, none⟩ = some (.float .f64 y) := by rw [hw2, setB_far _ _ _ _ _ _ (Or.inl (by simp <;> omega))]; exact G1.out.2.1.2
  have l0 : w.heap.size < w2.heap.size := by rw [HS2.out]; omega
  clear hw2
  go_wp2_with fail
  refine region_qtail 3 (by kernel_rfl) (by kernel_rfl) ?_
  simp only [List.take_succ_cons, List.take_zero, List.drop_succ_cons, List.drop_zero]
  repeat (refine wpQuiet_step (fun K hK => ?_); go_simp; first | (refine hK _ ?_; clear hK K))
  refine wpQuiet_nil ?_
  intro w3 hb3
  have HZ3 := Lib.hid hb3; clear hb3 k1 l0
  have hs3 : w2.heap.size ≤ w3.heap.size := HZ3.out.size
  have hs2 := HS2.out
  have c3 : Hid (∀ j, j < 16 → w3.cell? ⟨w.heap.size + 2, j, none⟩ = some (if j < 8 then .int .u8 ((x / 256 ^ j % 256 : Nat) : Int) else .int .u8 0)) := Lib.hid (by
    intro j hj
    rw [HZ3.out.cell (p := ⟨w.heap.size + 2, j, none⟩) (by simp; omega), HW2.out]
    by_cases h : j < 8
    · rw [if_pos h]
      have := setB_at w1 (w.heap.size + 2) 0 x 8 (fun j hj => by rw [Nat.zero_add, G1.out.2.2.2.2.1 j (by omega)]; rfl) j h
      rwa [Nat.zero_add] at this
    · rw [if_neg h, setB_far _ _ _ _ _ _ (Or.inr (Or.inr (by simp; omega)))]
      exact G1.out.2.2.2.2.1 j hj)
  have f3 : Hid (∀ j, w3.frozen? ⟨w.heap.size + 2, j, none⟩ = false) := Lib.hid (fun j => by
    rw [HZ3.out.frozen (p := ⟨w.heap.size + 2, j, none⟩) (by simp; omega), HW2.out, setB_frozen]; exact G1.out.2.2.2.2.2 j)
  have r3 : Hid ((∀ j, j < 16 → w3.cell? ⟨w.heap.size + 1, j, none⟩ = some (.int .u8 0)) ∧ ∀ j, w3.frozen? ⟨w.heap.size + 1, j, none⟩ = false) := Lib.hid ⟨fun j hj => by
    rw [HZ3.out.cell (p := ⟨w.heap.size + 1, j, none⟩) (by simp; omega), HW2.out, setB_far _ _ _ _ _ _ (Or.inl (by simp <;> omega))]; exact G1.out.2.2.1 j hj, fun j => by
    rw [HZ3.out.frozen (p := ⟨w.heap.size + 1, j, none⟩) (by simp; omega), HW2.out, setB_frozen]; exact G1.out.2.2.2.1 j⟩
  have B3 : Hid (Below w.heap.size w w3) := Lib.hid ((HW2.out ▸ setB_below G1.out.1 (w.heap.size + 2) 0 x 8 (by omega) : Below w.heap.size w w2).trans (HZ3.out.mono (by omega)))
  go_wp2_with fail
  refine (number_any (w.heap.size + 1 + 1) 8 8 y w3 (fun j hj => by rw [c3.out (8 + j) (by omega)]; rfl) (fun j hj => f3.out _)).mono ?_
  rintro e4 w4 ⟨⟨v4, rfl⟩, hw4⟩
  have R4 : Hid (w4.rangeAt (w.heap.size + 1 + 1) 0 (bv (leK x 8 ++ leK y 8))) := Lib.hid (by
    intro j v hv
    rw [Nat.zero_add, hw4]
    rcases le16_at x y j v hv with ⟨h1, rfl⟩ | ⟨i, h1, rfl, rfl⟩
    · rw [setB_far _ _ _ _ _ _ (Or.inr (Or.inl (by simpa using h1))), c3.out j (by omega), if_pos h1]
    · exact setB_at w3 (w.heap.size + 2) 8 y 8 (fun j hj => by rw [c3.out (8 + j) (by omega)]; rfl) i h1)
  have T4 : Hid (w4.there (w.heap.size + 1) 0 16) := Lib.hid (by
    intro j hj
    rw [Nat.zero_add, hw4, setB_frozen, setB_far _ _ _ _ _ _ (Or.inl (by simp <;> omega)), r3.out.1 j hj]
    exact ⟨rfl, r3.out.2 j⟩)
  have B4 : Hid (Below w.heap.size w w4) := Lib.hid (hw4 ▸ setB_below B3.out (w.heap.size + 2) 8 y 8 (by omega))
  clear hw4
  have hI : Hid ((Try.prog.info? 189).map (·.size) = some (bv (leK x 8 ++ leK y 8)).length) := Lib.hid (by rw [bv_length, le16_length]; exact info16)
  have hS : Hid ((Try.prog.info? 189).map (·.size) = some (bv (leK x 8 ++ leK y 8)).toArray.size) := Lib.hid (by rw [List.size_toArray]; exact hI.out)
  have e16 : (bv (leK x 8 ++ leK y 8)).toArray.size = 16 := by rw [List.size_toArray, bv_length, le16_length]
  have hT : Hid (w4.there (w.heap.size + 1) 0 (bv (leK x 8 ++ leK y 8)).toArray.size) := Lib.hid (by rw [e16]; exact T4.out)
  clear e16
  have h1 : Hid ((bv (leK x 8 ++ leK y 8)).toArray.all (·.oneCell') = true) := Lib.hid (all_oneCell_toArray (bv_one _))
  go_wp2_with (first
    | refine wpList_load_mid rfl 189 _ rfl (w.heap.size + 1 + 1) 0 rfl (bv (leK x 8 ++ leK y 8)) _ R4.out Try.underlying189 rfl hI.out ?_
    | refine wpList_store_mid rfl 189 _ _ rfl (w.heap.size + 1) 0 (bv (leK x 8 ++ leK y 8)).toArray rfl rfl hT.out hS.out h1.out ?_)
  have T5 : w4.there (w.heap.size + 1) 0 (bv (leK x 8 ++ leK y 8)).length := by rw [bv_length, le16_length]; exact T4.out
  have LV := run_loadVar_mid (P := Try.prog) (w4.setCells (w.heap.size + 1) 0 (bv (leK x 8 ++ leK y 8))) (w.heap.size + 1) 0 189 (bv (leK x 8 ++ leK y 8)) _ (World.rangeAt_setCells_same w4 (w.heap.size + 1) 0 _ T5) Try.underlying189 rfl hI.out
  have HB5 := below_setCells (B := w.heap.size) (a := w) (w.heap.size + 1) (by omega) (bv (leK x 8 ++ leK y 8)) 0 w4 B4.out
  clear T5
  generalize (bv (leK x 8 ++ leK y 8)) = L at *
  generalize w4.setCells (w.heap.size + 1) 0 L = w5 at *
  refine bodyPost_ret (v := .agg L.toArray) (by simp [results, Try.results116, LV, Act.put, asAddr]) rfl ⟨rfl, HB5⟩

end Go.Proofs.Ytamaeggkpdgaiaa
