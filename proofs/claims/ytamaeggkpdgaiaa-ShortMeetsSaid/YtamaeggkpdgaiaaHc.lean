/- The walks of the reference's sets: Of. -/
import Derived.Test.YtamaeggkpdgaiaaHb
import Derived.Deep.RegionHeld3
import Derived.Outline
namespace Go.Proofs.Ytamaeggkpdgaiaa
open Go.RowKit

def SetP (w : World) (nn : Bool) (p q : Nat) (e : Ending) (w' : World) : Prop :=
  ∃ A1 c1 A2 c2 A3 c3 A4 c4, e = .returned (.agg #[.bool nn, .int .i64 (endI p), .bool (endS p), .slice A1 (wN (endN p)) c1, .slice A2 (wN (endD p)) c2, .int .i64 (endI q), .bool (endS q), .slice A3 (wN (endN q)) c3, .slice A4 (wN (endD q)) c4]) ∧ EndR w' w'.heap.size p A1 A2 ∧ EndR w' w'.heap.size q A3 A4 ∧ Below w.heap.size w w'

/-- The nine cells of a set, written. -/
def set9 (w : World) (g : Nat) (a b c d e f h i j : Value) : World :=
  ((((((((w.setCell ⟨g, 0, none⟩ a).setCell ⟨g, 1, none⟩ b).setCell ⟨g, 2, none⟩ c).setCell ⟨g, 3, none⟩ d).setCell ⟨g, 4, none⟩ e).setCell ⟨g, 5, none⟩ f).setCell ⟨g, 6, none⟩ h).setCell ⟨g, 7, none⟩ i).setCell ⟨g, 8, none⟩ j
theorem size_set9 {w : World} {g : Nat} {a b c d e f h i j : Value} : (set9 w g a b c d e f h i j).heap.size = w.heap.size := by unfold set9; simp
theorem below_set9 {w w2 : World} {g : Nat} {a b c d e f h i j : Value} (hb : Below w.heap.size w w2) (hg : w.heap.size ≤ g) : Below w.heap.size w (set9 w2 g a b c d e f h i j) := by
  unfold set9
  exact ((((((((hb.setCell (by simpa using hg) _).setCell (by simpa using hg) _).setCell (by simpa using hg) _).setCell (by simpa using hg) _).setCell (by simpa using hg) _).setCell (by simpa using hg) _).setCell (by simpa using hg) _).setCell (by simpa using hg) _).setCell (by simpa using hg) _
theorem cell_set9 {w : World} {g q o : Nat} {a b c d e f h i j : Value} (hne : q ≠ g) : (set9 w g a b c d e f h i j).cell? ⟨q, o, none⟩ = w.cell? ⟨q, o, none⟩ := by
  unfold set9
  have H : ∀ (W : World) (k : Nat) (v : Value), (W.setCell ⟨g, k, none⟩ v).cell? ⟨q, o, none⟩ = W.cell? ⟨q, o, none⟩ := fun W k v => World.cell?_setCell_other W _ _ _ (by intro e; injection e with e1; exact hne e1.symm)
  rw [H, H, H, H, H, H, H, H, H]
theorem NumR.set9 {w : World} {B n N g : Nat} {A : Option Addr} {a b c d e f k i j : Value} (h : NumR w B A n N) (hne : 0 < n → ∀ a, A = some a → a.block ≠ g) : NumR (set9 w g a b c d e f k i j) B A n N := by
  unfold Go.Proofs.Ytamaeggkpdgaiaa.set9
  exact ((((((((h.setCell a hne).setCell b hne).setCell c hne).setCell d hne).setCell e hne).setCell f hne).setCell k hne).setCell i hne).setCell j hne
theorem EndR.set9 {w : World} {B p g : Nat} {A1 A2 : Option Addr} {a b c d e f k i j : Value} (h : EndR w B p A1 A2) (h1 : 0 < wN (endN p) → ∀ a, A1 = some a → a.block ≠ g) (h2 : 0 < wN (endD p) → ∀ a, A2 = some a → a.block ≠ g) : EndR (set9 w g a b c d e f k i j) B p A1 A2 :=
  ⟨h.1.set9 h1, h.2.set9 h2⟩
theorem zeros9 : ∀ (i : Nat) (z : Int), (#[.bool false, .int .i64 0, .bool false, .slice none 0 0, .slice none 0 0, .int .i64 0, .bool false, .slice none 0 0, .slice none 0 0] : Array Value)[i]? ≠ some (Value.int IntKind.u32 z) := by
  intro i z hi
  match i, hi with
  | 0, hi => simp at hi
  | 1, hi => simp at hi
  | 2, hi => simp at hi
  | 3, hi => simp at hi
  | 4, hi => simp at hi
  | 5, hi => simp at hi
  | 6, hi => simp at hi
  | 7, hi => simp at hi
  | 8, hi => simp at hi
  | q + 9, hi => simp at hi
/-- The block of a set that is being made. -/
def Blank9 (w : World) (g t : Nat) : Prop := w.heap[g]? = some (.cells #[.bool false, .int .i64 0, .bool false, .slice none 0 0, .slice none 0 0, .int .i64 0, .bool false, .slice none 0 0, .slice none 0 0] t (0, 0))
theorem Blank9.keep {w w' : World} {g t B : Nat} (h : Blank9 w g t) (hb : Below B w w') (hg : g < B) : Blank9 w' g t := by unfold Blank9 at *; rw [hb.block g hg]; exact h
theorem Blank9.cells {w : World} {g t : Nat} (h : Blank9 w g t) : w.cell? ⟨g, 0, none⟩ = some (.bool false) ∧ w.cell? ⟨g, 1, none⟩ = some (.int .i64 0) ∧ w.cell? ⟨g, 2, none⟩ = some (.bool false) ∧ w.cell? ⟨g, 3, none⟩ = some (.slice none 0 0) ∧ w.cell? ⟨g, 4, none⟩ = some (.slice none 0 0) ∧
    w.cell? ⟨g, 5, none⟩ = some (.int .i64 0) ∧ w.cell? ⟨g, 6, none⟩ = some (.bool false) ∧ w.cell? ⟨g, 7, none⟩ = some (.slice none 0 0) ∧ w.cell? ⟨g, 8, none⟩ = some (.slice none 0 0) := by
  unfold World.cell?; unfold Blank9 at h; simp [h]
theorem Blank9.free {w : World} {g t : Nat} (h : Blank9 w g t) (i : Nat) : w.frozen? ⟨g, i, none⟩ = false := by
  unfold World.frozen?; unfold Blank9 at h; simp [h]
theorem setP_of {w w2 : World} {nn : Bool} {p q g t : Nat} {A1 A2 A3 A4 : Option Addr} {c1 c2 c3 c4 : Nat} {a b c d e f k i j : Value} (h1 : EndR w2 w2.heap.size p A1 A2) (h2 : EndR w2 w2.heap.size q A3 A4) (hbl : Blank9 w2 g t) (hg : w.heap.size ≤ g) (hb : Below w.heap.size w w2) :
    SetP w nn p q (.returned (.agg #[.bool nn, .int .i64 (endI p), .bool (endS p), .slice A1 (wN (endN p)) c1, .slice A2 (wN (endD p)) c2, .int .i64 (endI q), .bool (endS q), .slice A3 (wN (endN q)) c3, .slice A4 (wN (endD q)) c4])) (Go.Proofs.Ytamaeggkpdgaiaa.set9 w2 g a b c d e f k i j) :=
  ⟨A1, c1, A2, c2, A3, c3, A4, c4, rfl, by rw [size_set9]; exact h1.set9 (h1.1.not_in hbl zeros9) (h1.2.not_in hbl zeros9), by rw [size_set9]; exact h2.set9 (h2.1.not_in hbl zeros9) (h2.2.not_in hbl zeros9), below_set9 hb hg⟩

theorem plainD_idem (x : Nat) : plainD (plainD x) = plainD x := by
  have h0 : plainD 0 = 0 := by decide
  have h1 : plainD 9221120237041090561 = 9221120237041090561 := by decide
  by_cases a : x = 9223372036854775808
  · have : plainD x = 0 := by unfold plainD; rw [if_pos a]
    rw [this, h0]
  · by_cases b : nanD x = true
    · have : plainD x = 9221120237041090561 := by unfold plainD; rw [if_neg a, if_pos b]
      rw [this, h1]
    · have : plainD x = x := by unfold plainD; rw [if_neg a, if_neg b]
      rw [this, this]
theorem plainE_lo {x y : Nat} (hx : W64 x) : PlainE (readLo x y) := by
  unfold readLo
  split
  · exact ⟨plainD_lt hx, plainD_idem x⟩
  · exact ⟨by unfold W64; decide, by decide⟩
theorem plainE_hi {x y : Nat} (hy : W64 y) : PlainE (readHi x y) := by
  unfold readHi
  split
  · exact ⟨plainD_lt hy, plainD_idem y⟩
  · exact ⟨by unfold W64; decide, by decide⟩
/-- What the set of an interval is written with. -/
def ofLo (x y : Nat) : Nat := if soundD x y then readLo x y else 0
def ofHi (x y : Nat) : Nat := if soundD x y then readHi x y else 0
set_option maxRecDepth 100000 in
set_option maxHeartbeats 500000 in
theorem of_any (x y : Nat) (hx : W64 x) (hy : W64 y) (w : World) :
    Calls Try.prog 61 #[.agg #[.int .u64 (x : Int), .int .u64 (y : Int)]] w fun e w' => SetP w (!soundD x y) (ofLo x y) (ofHi x y) e w' := by
  have HB0 : Hid (Below w.heap.size w ((w.alloc (.cells #[.int .u64 (x : Int), .int .u64 (y : Int)] 27)).alloc (.cells #[.bool false, .int .i64 0, .bool false, .slice none 0 0, .slice none 0 0, .int .i64 0, .bool false, .slice none 0 0, .slice none 0 0] 112))) := Lib.hid (((Below.refl _ _).alloc (Nat.le_refl _) _).alloc (by simp) _)
  have hbl : Blank9 ((w.alloc (.cells #[.int .u64 (x : Int), .int .u64 (y : Int)] 27)).alloc (.cells #[.bool false, .int .i64 0, .bool false, .slice none 0 0, .slice none 0 0, .int .i64 0, .bool false, .slice none 0 0, .slice none 0 0] 112)) (w.heap.size + 1) 112 := by
    unfold Blank9
    have := heap_alloc_new (w.alloc (.cells #[.int .u64 (x : Int), .int .u64 (y : Int)] 27)) (.cells #[.bool false, .int .i64 0, .bool false, .slice none 0 0, .slice none 0 0, .int .i64 0, .bool false, .slice none 0 0, .slice none 0 0] 112)
    simpa using this
  have HBl := Lib.hid hbl; clear hbl
  have pl := plainE_lo (y := y) hx; have ph := plainE_hi (x := x) hy
  have HPL := Lib.hid pl; have HPH := Lib.hid ph; clear pl ph
  cases hs : soundD x y
  case false =>
    have HL : Hid (readLo x y = 9218868437227405312) := Lib.hid (by unfold readLo; rw [hs]; rfl)
    have HH : Hid (readHi x y = 18442240474082181120) := Lib.hid (by unfold readHi; rw [hs]; rfl)
    have HOL : Hid (ofLo x y = 0) := Lib.hid (by unfold ofLo; rw [hs]; rfl)
    have HOH : Hid (ofHi x y = 0) := Lib.hid (by unfold ofHi; rw [hs]; rfl)
    clear hs
    go_enter Try.func61, Try.ntmps61
    go_wp2_with fail
    refine (readD_any x y hx hy _).mono ?_
    rintro e1 w1 ⟨rfl, hb1⟩
    rw [HL.out, HH.out]
    have HB1 := Lib.hid (below_then HB0.out hb1)
    have HBl1 := Lib.hid (HBl.out.keep hb1 (by simp))
    have hs1 : w.heap.size + 2 ≤ w1.heap.size := by have := hb1.size; simpa using this
    clear hb1
    go_wp2_with fail
    refine region_quiet (by kernel_rfl) (by kernel_rfl) ?_
    repeat (refine wpQuiet_step (fun K hK => ?_); go_simp; first | (refine hK _ ?_; clear hK K) | (apply Exists.intro; refine ⟨fun _ => ?_, hK _ ?_⟩; ((with_reducible exact qcall (emptyD_any _))); clear hK K))
    refine wpQuiet_nil ?_
    intro w2 hb2
    have HB2 := Lib.hid (below_then (HB1.out.alloc HB1.out.size (.cells #[.int .u64 9218868437227405312, .int .u64 18442240474082181120] 27)) hb2)
    have HBl2 := Lib.hid ((HBl1.out.keep ((Below.refl w1.heap.size w1).alloc (Nat.le_refl _) (.cells #[.int .u64 9218868437227405312, .int .u64 18442240474082181120] 27)) (by omega)).keep hb2 (by simp; omega))
    have hs2 : w.heap.size + 2 ≤ w2.heap.size := by have := hb2.size; simp at this; omega
    clear hb2 HBl1
    go_wp2_with fail
    refine (finite0_any _).mono ?_
    rintro e3 w3 ⟨A1, q1, A2, q2, rfl, p3, hb3⟩
    have H3 := Lib.hid p3; have HB3 := Lib.hid (below_then HB2.out hb3); have HBl3 := Lib.hid (HBl2.out.keep hb3 (by omega))
    have hs3 := Nat.le_trans hs2 hb3.size
    clear p3 hb3
    go_wp2_with fail
    refine (finite0_any _).mono ?_
    rintro e4 w4 ⟨A3, q3, A4, q4, rfl, p4, hb4⟩
    have H4 := Lib.hid p4; have H34 := Lib.hid (H3.out.next hb4); have HB4 := Lib.hid (below_then HB3.out hb4); have HBl4 := Lib.hid (HBl3.out.keep hb4 (by omega))
    have hs4 := Nat.le_trans hs3 hb4.size
    clear p4 hb4
    obtain ⟨r0, r1, r2, r3, r4, r5, r6, r7, r8⟩ := HBl4.out.cells
    have x0 := HBl4.out.free 0; have x1 := HBl4.out.free 1; have x2 := HBl4.out.free 2; have x3 := HBl4.out.free 3; have x4 := HBl4.out.free 4; have x5 := HBl4.out.free 5; have x6 := HBl4.out.free 6; have x7 := HBl4.out.free 7; have x8 := HBl4.out.free 8
    have hz : w.heap.size + 1 < w4.heap.size := by omega
    go_wp2
    refine bodyPost_ret (v := .agg #[.bool true, .int .i64 (endI 0), .bool (endS 0), .slice A1 (wN (endN 0)) q1, .slice A2 (wN (endD 0)) q2, .int .i64 (endI 0), .bool (endS 0), .slice A3 (wN (endN 0)) q3, .slice A4 (wN (endD 0)) q4]) (by simp [results, Try.results61, go_sem, *]) rfl ?_
    rw [HOL.out, HOH.out]
    exact setP_of H34.out H4.out HBl4.out (by omega) HB4.out
  case true =>
    have hne : ((readLo x y : Int) == 9218868437227405312) = false := by
      have h2 : (readLo x y) ≠ 9218868437227405312 := by
        unfold readLo; rw [hs]
        simp only [if_true]
        unfold soundD at hs
        intro h3
        unfold plainD at h3
        split at h3
        · omega
        · split at h3
          · omega
          · subst h3; simp at hs
      simp; omega
    have HOL : Hid (ofLo x y = readLo x y) := Lib.hid (by unfold ofLo; rw [hs]; rfl)
    have HOH : Hid (ofHi x y = readHi x y) := Lib.hid (by unfold ofHi; rw [hs]; rfl)
    clear hs
    generalize hlo : readLo x y = lo at *
    generalize hhi : readHi x y = hi at *
    have HLo := Lib.hid hlo; have HHi := Lib.hid hhi; clear hlo hhi
    go_enter Try.func61, Try.ntmps61
    go_wp2_with fail
    refine (readD_any x y hx hy _).mono ?_
    rintro e1 w1 ⟨rfl, hb1⟩
    rw [HLo.out, HHi.out]
    have HB1 := Lib.hid (below_then HB0.out hb1)
    have HBl1 := Lib.hid (HBl.out.keep hb1 (by simp))
    have hs1 : w.heap.size + 2 ≤ w1.heap.size := by have := hb1.size; simpa using this
    clear hb1
    go_wp2_with fail
    refine region_quiet (by kernel_rfl) (by kernel_rfl) ?_
    repeat (refine wpQuiet_step (fun K hK => ?_); go_simp; first | (refine hK _ ?_; clear hK K) | (apply Exists.intro; refine ⟨fun _ => ?_, hK _ ?_⟩; ((with_reducible exact qcall (emptyD_any _))); clear hK K))
    refine wpQuiet_nil ?_
    intro w2 hb2
    have HZ2 : Hid (Below (w1.heap.size + 1) (w1.alloc (.cells #[.int .u64 (lo : Int), .int .u64 (hi : Int)] 27)) w2) := Lib.hid (hb2.mono (by simp))
    have hs2 : w1.heap.size + 1 ≤ w2.heap.size := by have := hb2.size; simpa using this
    clear hb2
    have KB : Hid (∀ w', Below (w1.heap.size + 1) (w1.alloc (.cells #[.int .u64 (lo : Int), .int .u64 (hi : Int)] 27)) w' → Below w.heap.size w w') := Lib.hid (fun w' h => (HB1.out.alloc HB1.out.size _).trans (h.mono (by omega)))
    have KBl : Hid (∀ w', Below (w1.heap.size + 1) (w1.alloc (.cells #[.int .u64 (lo : Int), .int .u64 (hi : Int)] 27)) w' → Blank9 w' (w.heap.size + 1) 112) := Lib.hid (fun w' h => (HBl1.out.keep ((Below.refl w1.heap.size w1).alloc (Nat.le_refl _) _) (by omega)).keep h (by omega))
    have KS : ∀ w', Below (w1.heap.size + 1) (w1.alloc (.cells #[.int .u64 (lo : Int), .int .u64 (hi : Int)] 27)) w' → (Below w.heap.size w w' ∧ w'.cell? ⟨w1.heap.size, 0, none⟩ = some (.int .u64 (lo : Int)) ∧ w'.cell? ⟨w1.heap.size, 1, none⟩ = some (.int .u64 (hi : Int))) := fun w' h =>
      ⟨KB.out w' h, (h.cell (p := ⟨w1.heap.size, 0, none⟩) (by simp)).trans (by simp [go_sem]), (h.cell (p := ⟨w1.heap.size, 1, none⟩) (by simp)).trans (by simp [go_sem])⟩
    obtain ⟨-, d0, d1⟩ := KS w2 HZ2.out
    go_wp2_with fail
    have KK0 := KS w2.drew HZ2.out.drew
    have hgn : w1.heap.size ≠ w.heap.size + 1 := by omega
    have hgg : w.heap.size ≤ w.heap.size + 1 := Nat.le_succ _
    have ZD : Hid (Below (w1.heap.size + 1) (w1.alloc (.cells #[.int .u64 (lo : Int), .int .u64 (hi : Int)] 27)) w2.drew) := Lib.hid HZ2.out.drew
    go_region_held3 (fun w' => (Below w.heap.size w w' ∧ w'.cell? ⟨w1.heap.size, 0, none⟩ = some (.int .u64 (lo : Int)) ∧ w'.cell? ⟨w1.heap.size, 1, none⟩ = some (.int .u64 (hi : Int))))
      (first | with_reducible assumption | exact ⟨below_set9 (KB.out w4 ZE.out) hgg, (cell_set9 hgn).trans y0, (cell_set9 hgn).trans y1⟩)
      (first
        | (go_at_call 104; (with_reducible refine (bound_any lo HPL.out w2.drew).mono ?_); rintro e3 w3 ⟨A1, q1, A2, q2, rfl, p3, hb3⟩; have KK3 := KS w3 (ZD.out.trans (hb3.mono hs2)))
        | (go_at_call 104; (with_reducible refine (bound_any hi HPH.out w3).mono ?_); rintro e4 w4 ⟨A3, q3, A4, q4, rfl, p4, hb4⟩; have ZE : Hid (Below (w1.heap.size + 1) (w1.alloc (.cells #[.int .u64 (lo : Int), .int .u64 (hi : Int)] 27)) w4) := Lib.hid (ZD.out.trans ((hb3.trans (hb4.mono hb3.size)).mono hs2)); have KK4 := KS w4 ZE.out; obtain ⟨-, y0, y1⟩ := KS w4 ZE.out; have HBl4 := Lib.hid (KBl.out w4 ZE.out); have H34 := Lib.hid (p3.next hb4); have H4 := Lib.hid p4; obtain ⟨r0, r1, r2, r3, r4, r5, r6, r7, r8⟩ := HBl4.out.cells; have x0 := HBl4.out.free 0; have x1 := HBl4.out.free 1; have x2 := HBl4.out.free 2; have x3 := HBl4.out.free 3; have x4 := HBl4.out.free 4; have x5 := HBl4.out.free 5; have x6 := HBl4.out.free 6; have x7 := HBl4.out.free 7; have x8 := HBl4.out.free 8; have hz : w.heap.size + 1 < w4.heap.size := (by have := ZE.out.size; simp at this; omega)))
    all_goals
      go_wp2
      refine bodyPost_ret (v := .agg #[.bool false, .int .i64 (endI lo), .bool (endS lo), .slice A1 (wN (endN lo)) q1, .slice A2 (wN (endD lo)) q2, .int .i64 (endI hi), .bool (endS hi), .slice A3 (wN (endN hi)) q3, .slice A4 (wN (endD hi)) q4]) (by simp [results, Try.results61, go_sem, *]) rfl ?_
      rw [HOL.out, HOH.out]
      exact setP_of H34.out H4.out HBl4.out (by omega) (KB.out _ ZE.out)

end Go.Proofs.Ytamaeggkpdgaiaa
