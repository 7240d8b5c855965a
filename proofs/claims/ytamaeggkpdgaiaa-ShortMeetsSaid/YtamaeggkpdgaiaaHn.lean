/- The walks of vergeref9.Disjoint and vergeref9.Intersect. -/
import Derived.Test.YtamaeggkpdgaiaaHm
namespace Go.Proofs.Ytamaeggkpdgaiaa
open Go.RowKit

theorem not_both {x y : Nat} (hx : W64 x) (hy : W64 y) : (((readLo x y : Int) == 9218868437227405312) && ((readHi x y : Int) == 18442240474082181120)) = !soundD x y := by
  cases hs : soundD x y
  · obtain ⟨e1, e2⟩ := unsound_facts hs
    rw [e1, e2]; decide
  · obtain ⟨t1, t2, t3, t4, t5⟩ := sound_facts hx hy hs
    have : ((readLo x y : Int) == 9218868437227405312) = false := by rw [beq_eq_false_iff_ne]; omega
    rw [this]; rfl

theorem rows_any (x y u v : Nat) (hx : W64 x) (hy : W64 y) (hu : W64 u) (hv : W64 v) (w : World) :
    Calls Try.prog 95 #[.agg #[.int .u64 (x : Int), .int .u64 (y : Int)], .agg #[.int .u64 (u : Int), .int .u64 (v : Int)]] w fun e w' => RowsP (readLo x y) (readHi x y) (readLo u v) (readHi u v) (!soundD x y) (!soundD u v) e w w' := by
  have oa := ok_lo hx hy; have ob := ok_hi hx hy; have oc := ok_lo hu hv; have od := ok_hi hu hv
  have hall : ∀ j, j < 4 → EndOk (four (readLo x y) (readHi x y) (readLo u v) (readHi u v) j) := by
    intro j hj
    match j, hj with
    | 0, _ => exact oa
    | 1, _ => exact ob
    | 2, _ => exact oc
    | 3, _ => exact od
  exact rows_walk x y u v _ _ _ _ _ _ (not_both hx hy) (not_both hu hv) (Lib.hid (fun w => readD_any x y hx hy w)) (Lib.hid (fun w => readD_any u v hu hv w))
    (Lib.hid (fun w => cuts_any _ _ _ _ (Lib.hid (fun j hj => ⟨(hall j hj).plain.1, (hall j hj).nan⟩)) (Lib.hid (fun i j hi hj he => kD_inj (hall i hi).plain (hall j hj).plain he)) w)) w

set_option maxRecDepth 100000 in
set_option maxHeartbeats 1000000 in
theorem disjoint_any (x y u v : Nat) (hx : W64 x) (hy : W64 y) (hu : W64 u) (hv : W64 v) (w : World) :
    Calls Try.prog 56 #[.agg #[.int .u64 (x : Int), .int .u64 (y : Int)], .agg #[.int .u64 (u : Int), .int .u64 (v : Int)]] w
      fun e w' => e = .returned (.bool (apartK (readLo x y) (readHi x y) (readLo u v) (readHi u v))) ∧ Below w.heap.size w w' := by
  have HR := Lib.hid (fun w => rows_any x y u v hx hy hu hv w)
  have HA := fun {n : Nat} {f : Nat → Nat} {pa pb pc pd : Nat} => apart_iff (n := n) (f := f) (pa := pa) (pb := pb) (pc := pc) (pd := pd) hx hy hu hv
  generalize readLo x y = a at *
  generalize readHi x y = b at *
  generalize readLo u v = c at *
  generalize readHi u v = d at *
  generalize (!soundD x y) = na at *
  generalize (!soundD u v) = nc at *
  have HA' : Hid (∀ (n : Nat) (f : Nat → Nat) (pa pb pc pd : Nat), CutsD (four a b c d) n f → PlaceP n f a pa → PlaceP n f b pb → PlaceP n f c pc → PlaceP n f d pd → (Apart na pa pb nc pc pd (4 * (n + 1)) ↔ apartK a b c d = true)) := Lib.hid (fun _ _ _ _ _ _ h1 h2 h3 h4 h5 => HA h1 h2 h3 h4 h5)
  clear HA hx hy hu hv
  go_enter Try.func56, Try.ntmps56
  go_wp2_with fail
  refine (HR.out _).mono ?_
  rintro e1 w1 ⟨n, f, pa, pb, pc, pd, hn, hcut, ha, hb, hc, hd, rfl, hb1⟩
  have HI := Lib.hid (HA'.out _ _ _ _ _ _ hcut ha hb hc hd)
  have HB1 : Hid (Below w.heap.size w w1) := Lib.hid (below_then (((Below.refl _ _).alloc (Nat.le_refl _) _).alloc (by simp) _) hb1)
  clear hcut ha hb hc hd hb1
  go_wp2_with fail
  have HE := fun w => each5_any na nc pa pb pc pd (4 * (n + 1)) (by omega) (by omega) w
  rw [show (((4 * (n + 1) : Nat)) : Int) = 4 * ((n : Int) + 1) from by omega] at HE
  refine (HE _).mono ?_
  rintro e2 w2 ⟨r, rfl, hr, hb2⟩
  have hr2 : r = apartK a b c d := by rw [Bool.eq_iff_iff, hr, HI.out]
  go_wp2
  go_ret
  exact ⟨rfl, below_then ((HB1.out.alloc HB1.out.size _).alloc (by have := HB1.out.size; simp; omega) _) hb2⟩

set_option maxRecDepth 100000 in
set_option maxHeartbeats 2000000 in
theorem intersect_walk (x y u v a b c d lo hi : Nat) (t g1 g2 : Bool) (h1 : t = true → lo = 9218868437227405312 ∧ hi = 18442240474082181120) (h2 : t = false → lo = (if g1 then c else a) ∧ hi = (if g2 then d else b))
    (R1 : Hid (∀ w : World, Calls Try.prog 44 #[.agg #[.int .u64 (x : Int), .int .u64 (y : Int)]] w fun e w' => e = .returned (.agg #[.int .u64 (a : Int), .int .u64 (b : Int)]) ∧ Below w.heap.size w w'))
    (R2 : Hid (∀ w : World, Calls Try.prog 44 #[.agg #[.int .u64 (u : Int), .int .u64 (v : Int)]] w fun e w' => e = .returned (.agg #[.int .u64 (c : Int), .int .u64 (d : Int)]) ∧ Below w.heap.size w w'))
    (DD : Hid (∀ w : World, Calls Try.prog 56 #[.agg #[.int .u64 (a : Int), .int .u64 (b : Int)], .agg #[.int .u64 (c : Int), .int .u64 (d : Int)]] w fun e w' => e = .returned (.bool t) ∧ Below w.heap.size w w'))
    (A1 : Hid (∀ w : World, Calls Try.prog 58 #[.int .u64 (c : Int), .int .u64 (a : Int)] w fun e w' => e = .returned (.bool g1) ∧ w = w'))
    (A2 : Hid (∀ w : World, Calls Try.prog 58 #[.int .u64 (b : Int), .int .u64 (d : Int)] w fun e w' => e = .returned (.bool g2) ∧ w = w')) (w : World) :
    Calls Try.prog 24 #[.agg #[.int .u64 (x : Int), .int .u64 (y : Int)], .agg #[.int .u64 (u : Int), .int .u64 (v : Int)]] w
      fun e w' => e = .returned (.agg #[.int .u64 (lo : Int), .int .u64 (hi : Int)]) ∧ Below w.heap.size w w' := by
  have HB0 : Hid (Below w.heap.size w (((w.alloc (.cells #[.int .u64 (x : Int), .int .u64 (y : Int)] 27)).alloc (.cells #[.int .u64 (u : Int), .int .u64 (v : Int)] 27)).alloc (.cells #[.int .u64 0, .int .u64 0] 27))) := Lib.hid (below3 _ _ _ _)
  have KS : Hid (∀ w', Below (w.heap.size + 3) (((w.alloc (.cells #[.int .u64 (x : Int), .int .u64 (y : Int)] 27)).alloc (.cells #[.int .u64 (u : Int), .int .u64 (v : Int)] 27)).alloc (.cells #[.int .u64 0, .int .u64 0] 27)) w' → (Below w.heap.size w w' ∧ w'.cell? ⟨w.heap.size + 1, 0, none⟩ = some (.int .u64 (u : Int)) ∧ w'.cell? ⟨w.heap.size + 1, 1, none⟩ = some (.int .u64 (v : Int)) ∧ w'.cell? ⟨w.heap.size + 1 + 1, 0, none⟩ = some (.int .u64 0) ∧ w'.frozen? ⟨w.heap.size + 1 + 1, 0, none⟩ = false ∧ w'.cell? ⟨w.heap.size + 1 + 1, 1, none⟩ = some (.int .u64 0) ∧ w'.frozen? ⟨w.heap.size + 1 + 1, 1, none⟩ = false)) :=
    Lib.hid (fun w' h => ⟨HB0.out.trans (h.mono (by omega)), (h.cell (p := ⟨w.heap.size + 1, 0, none⟩) (by simp; try omega)).trans (by simp [go_sem]), (h.cell (p := ⟨w.heap.size + 1, 1, none⟩) (by simp; try omega)).trans (by simp [go_sem]), (h.cell (p := ⟨w.heap.size + 1 + 1, 0, none⟩) (by simp; try omega)).trans (by simp [go_sem]), (h.frozen (p := ⟨w.heap.size + 1 + 1, 0, none⟩) (by simp; try omega)).trans (by simp [go_sem]), (h.cell (p := ⟨w.heap.size + 1 + 1, 1, none⟩) (by simp; try omega)).trans (by simp [go_sem]), (h.frozen (p := ⟨w.heap.size + 1 + 1, 1, none⟩) (by simp; try omega)).trans (by simp [go_sem])⟩)
  go_enter Try.func24, Try.ntmps24
  go_wp2_with fail
  obtain ⟨W0, hW0⟩ : ∃ W0 : World, W0 = (((w.alloc (.cells #[.int .u64 (x : Int), .int .u64 (y : Int)] 27)).alloc (.cells #[.int .u64 (u : Int), .int .u64 (v : Int)] 27)).alloc (.cells #[.int .u64 0, .int .u64 0] 27)) := ⟨_, rfl⟩
  rw [← hW0] at KS HB0 ⊢
  have HSz : Hid (W0.heap.size = w.heap.size + 3) := Lib.hid (by rw [hW0]; simp)
  clear hW0
  refine (R1.out _).mono ?_
  rintro e1 w1 ⟨rfl, hb1⟩
  have HZ1 : Hid (Below (w.heap.size + 3) W0 w1) := Lib.hid (hb1.mono (by rw [HSz.out]; exact Nat.le_refl _)); clear hb1
  obtain ⟨-, u0, u1, -⟩ := KS.out w1 HZ1.out
  have hs1 : w.heap.size + 3 ≤ w1.heap.size := by have := HZ1.out.size; rw [HSz.out] at this; exact this
  have hl1 : w.heap.size + 1 < w1.heap.size := by omega
  go_wp2_with fail
  refine (R2.out _).mono ?_
  rintro e2 w2 ⟨rfl, hb2⟩
  have HZ2 : Hid (Below (w1.heap.size + 1) (w1.alloc (.cells #[.int .u64 (a : Int), .int .u64 (b : Int)] 27)) w2) := Lib.hid (hb2.mono (by simp)); clear hb2 u0 u1
  have hs2 : w1.heap.size + 1 ≤ w2.heap.size := by have := HZ2.out.size; simpa using this
  have K2 : Hid (∀ w', Below (w2.heap.size + 1) (w2.alloc (.cells #[.int .u64 (c : Int), .int .u64 (d : Int)] 27)) w' → (Below (w.heap.size + 3) W0 w' ∧ w'.cell? ⟨w1.heap.size, 0, none⟩ = some (.int .u64 (a : Int)) ∧ w'.cell? ⟨w1.heap.size, 1, none⟩ = some (.int .u64 (b : Int)) ∧ w'.cell? ⟨w2.heap.size, 0, none⟩ = some (.int .u64 (c : Int)) ∧ w'.cell? ⟨w2.heap.size, 1, none⟩ = some (.int .u64 (d : Int)))) := Lib.hid (fun w' h =>
    have h2 : Below (w1.heap.size + 1) (w1.alloc (.cells #[.int .u64 (a : Int), .int .u64 (b : Int)] 27)) w' := (HZ2.out.alloc hs2 _).trans (h.mono (by omega))
    ⟨(HZ1.out.alloc hs1 _).trans (h2.mono (by omega)), (h2.cell (p := ⟨w1.heap.size, 0, none⟩) (by simp)).trans (by simp [go_sem]), (h2.cell (p := ⟨w1.heap.size, 1, none⟩) (by simp)).trans (by simp [go_sem]),
      (h.cell (p := ⟨w2.heap.size, 0, none⟩) (by simp)).trans (by simp [go_sem]), (h.cell (p := ⟨w2.heap.size, 1, none⟩) (by simp)).trans (by simp [go_sem])⟩)
  have Z2 : Hid (Below (w2.heap.size + 1) (w2.alloc (.cells #[.int .u64 (c : Int), .int .u64 (d : Int)] 27)) (w2.alloc (.cells #[.int .u64 (c : Int), .int .u64 (d : Int)] 27))) := Lib.hid (Below.refl _ _)
  obtain ⟨-, k0, k1, k2, k3⟩ := K2.out _ Z2.out
  go_wp2_with fail
  obtain ⟨W2, hW2⟩ : ∃ W2 : World, W2 = w2.alloc (.cells #[.int .u64 (c : Int), .int .u64 (d : Int)] 27) := ⟨_, rfl⟩
  have HS2 : Hid (W2.heap.size = w2.heap.size + 1) := Lib.hid (by rw [hW2]; simp)
  rw [← hW2] at K2 Z2 ⊢
  clear hW2 k0 k1 k2 k3
  refine (DD.out _).mono ?_
  rintro e3 w3 ⟨rfl, hb3⟩
  have HZ3 : Hid (Below (w2.heap.size + 1) W2 w3) := Lib.hid (hb3.mono (by rw [HS2.out]; exact Nat.le_refl _)); clear hb3
  have hs3 : w2.heap.size + 1 ≤ w3.heap.size := by have := HZ3.out.size; rw [HS2.out] at this; exact this
  have KB : Hid (∀ w', Below w3.heap.size w3 w' → Below w.heap.size w w') := Lib.hid (fun w' h => (KS.out w' ((K2.out w' (HZ3.out.trans (h.mono hs3))).1)).1)
  have KR : Hid (∀ w', Below w3.heap.size w3 w' → (w'.cell? ⟨w.heap.size + 1 + 1, 0, none⟩ = some (.int .u64 0) ∧ w'.cell? ⟨w.heap.size + 1 + 1, 1, none⟩ = some (.int .u64 0) ∧ w'.frozen? ⟨w.heap.size + 1 + 1, 0, none⟩ = false ∧ w'.frozen? ⟨w.heap.size + 1 + 1, 1, none⟩ = false)) := Lib.hid (fun w' h => by
    obtain ⟨-, -, -, q0, q1, q2, q3⟩ := KS.out w' ((K2.out w' (HZ3.out.trans (h.mono hs3))).1)
    exact ⟨q0, q2, q1, q3⟩)
  obtain ⟨-, k0, k1, k2, k3⟩ := K2.out w3 HZ3.out
  obtain ⟨r0, r1, f0, f1⟩ := KR.out w3 (Below.refl _ _)
  have hl3 : w1.heap.size < w3.heap.size := by omega
  have hl4 : w2.heap.size < w3.heap.size := by omega
  have hl5 : w.heap.size + 1 + 1 < w3.heap.size := by omega
  cases t
  case true =>
    obtain ⟨rfl, rfl⟩ := h1 rfl
    clear k0 k1 k2 k3 r0 r1 f0 f1
    go_wp2_with fail
    refine (emptyD_any _).mono ?_
    rintro e4 w4 ⟨rfl, hb4⟩
    have HBE := Lib.hid (KB.out w4 hb4)
    obtain ⟨r0, r1, f0, f1⟩ := KR.out w4 hb4
    have hl6 : w.heap.size + 1 + 1 < w4.heap.size := by have := hb4.size; omega
    clear hb4
    go_wp2
    refine bodyPost_ret (v := .agg #[.int .u64 9218868437227405312, .int .u64 18442240474082181120]) (by simp [results, Try.results24, go_sem, *]) rfl ⟨rfl, ?_⟩
    exact (HBE.out.setCell (by simp; omega) _).setCell (by simp; omega) _
  case false =>
    obtain ⟨rfl, rfl⟩ := h2 rfl
    have hz : w3.heap.size ≠ w.heap.size + 1 + 1 := by omega
    have hz2 : w3.heap.size ≠ w1.heap.size := by omega
    have hz3 : w3.heap.size ≠ w2.heap.size := by omega
    have HBE := Lib.hid (KB.out w3 (Below.refl _ _))
    have hle : w.heap.size ≤ w3.heap.size := by omega
    clear h1 h2
    cases g1 <;> cases g2
    all_goals
      first | simp only [Bool.false_eq_true, if_false] | simp only [if_true]
      try simp only [if_true]
      go_wp2_with (first
        | (go_at_call 58; (with_reducible refine (A1.out _).mono ?_); rintro e4 w4 ⟨rfl, rfl⟩)
        | (go_at_call 58; (with_reducible refine (A2.out _).mono ?_); rintro e4 w4 ⟨rfl, rfl⟩))
      refine bodyPost_ret (v := .agg #[.int .u64 _, .int .u64 _]) (by simp [results, Try.results24, go_sem, *]) rfl ⟨rfl, ?_⟩
      repeat (first | (refine Below.setCell ?_ (by first | omega | (simp; omega)) _) | (with_reducible refine Below.drew ?_) | (refine Below.alloc ?_ (by first | omega | (simp; done) | (simp; omega)) _))
      exact HBE.out

/-- What two intervals have in common, by their ends as read. -/
def meetLo (a b c d : Nat) : Nat := if apartK a b c d then 9218868437227405312 else greaterK a c
def meetHi (a b c d : Nat) : Nat := if apartK a b c d then 18442240474082181120 else lesserK b d

theorem intersect_any (x y u v : Nat) (hx : W64 x) (hy : W64 y) (hu : W64 u) (hv : W64 v) (w : World) :
    Calls Try.prog 24 #[.agg #[.int .u64 (x : Int), .int .u64 (y : Int)], .agg #[.int .u64 (u : Int), .int .u64 (v : Int)]] w
      fun e w' => e = .returned (.agg #[.int .u64 (meetLo (readLo x y) (readHi x y) (readLo u v) (readHi u v) : Int), .int .u64 (meetHi (readLo x y) (readHi x y) (readLo u v) (readHi u v) : Int)]) ∧ Below w.heap.size w w' := by
  have oa := ok_lo hx hy; have ob := ok_hi hx hy; have oc := ok_lo hu hv; have od := ok_hi hu hv
  have i1 := read_idem hx hy; have i2 := read_idem hu hv
  have DD := fun w => disjoint_any (readLo x y) (readHi x y) (readLo u v) (readHi u v) oa.plain.1 ob.plain.1 oc.plain.1 od.plain.1 w
  rw [i1.1, i1.2, i2.1, i2.2] at DD
  refine intersect_walk x y u v _ _ _ _ _ _ (apartK (readLo x y) (readHi x y) (readLo u v) (readHi u v)) (aboveD (readLo u v) (readLo x y)) (aboveD (readHi x y) (readHi u v)) (fun h => ?_) (fun h => ?_) (Lib.hid (fun w => readD_any x y hx hy w)) (Lib.hid (fun w => readD_any u v hu hv w)) (Lib.hid DD)
    (Lib.hid (fun w => aboveD_any _ _ oc.plain.1 oa.plain.1 w)) (Lib.hid (fun w => aboveD_any _ _ ob.plain.1 od.plain.1 w)) w
  · unfold meetLo meetHi; rw [h]; exact ⟨rfl, rfl⟩
  · unfold meetLo meetHi
    rw [h, aboveD_eq oc.plain.1 oa.plain.1, aboveD_eq ob.plain.1 od.plain.1, oa.nan, ob.nan, oc.nan, od.nan]
    unfold greaterK lesserK
    simp

end Go.Proofs.Ytamaeggkpdgaiaa
