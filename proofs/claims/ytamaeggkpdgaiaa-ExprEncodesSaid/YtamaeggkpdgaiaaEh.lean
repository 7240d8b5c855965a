/- The walk of the reader's constant. -/
import Derived.Test.YtamaeggkpdgaiaaEg
namespace Go.Proofs.Ytamaeggkpdgaiaa
open Go.RowKit

/-- The bytes of an interval, in a list, at p. -/
def Has16 (l : List Int) (p x y : Nat) : Prop := (∀ i, i < 8 → l.getD (p + i) 0 = ((x / 256 ^ i % 256 : Nat) : Int)) ∧ ∀ i, i < 8 → l.getD (p + 8 + i) 0 = ((y / 256 ^ i % 256 : Nat) : Int)

theorem RdAt.alloc {w : World} {g b N cap p : Nat} {l : List Int} (h : RdAt w g b N cap l p) (o : Obj) : RdAt (w.alloc o) g b N cap l p :=
  h.moved (World.grownBy_alloc w o _) ((heap_alloc_old w o (heap_lt h.heap)).trans h.heap)
theorem RdAt.below {w w' : World} {g b N cap p : Nat} {l : List Int} (h : RdAt w g b N cap l p) (hb : Below w.heap.size w w') : RdAt w' g b N cap l p :=
  h.moved (grown_below hb) ((hb.block g (heap_lt h.heap)).trans h.heap)
theorem grown_heap {w w' : World} {g k : Nat} {o : Obj} (h : w.grownBy w' (some g)) (hk : w.heap[k]? = some o) (hne : k ≠ g) : w'.heap[k]? = some o :=
  (h.block k (heap_lt hk) (by intro e; injection e with e; exact hne e)).trans hk
theorem below_heap {w w' : World} {k : Nat} {o : Obj} (h : Below w.heap.size w w') (hk : w.heap[k]? = some o) : w'.heap[k]? = some o := (h.block k (heap_lt hk)).trans hk

theorem heap_set_other {w : World} {g k o : Nat} {v : Value} (h : k ≠ g) : (w.setCell ⟨k, o, none⟩ v).heap[g]? = w.heap[g]? := by
  unfold World.setCell
  simp [h, Array.getElem?_modify]
theorem RdAt.set {w : World} {g b N cap p k : Nat} {l : List Int} (h : RdAt w g b N cap l p) (hg : k ≠ g) (hb : k ≠ b) (o : Nat) (v : Value) : RdAt (w.setCell ⟨k, o, none⟩ v) g b N cap l p :=
  ⟨(heap_set_other hg).trans h.heap, h.len, h.cap, h.small, fun i hi => by rw [World.cell?_setCell_other _ _ _ _ (by intro e; injection e with e; exact hb e)]; exact h.byte i hi, by simpa [World.setCell] using h.lt, h.ne⟩
theorem grown_setNew {w w' : World} {r : Option Nat} {k : Nat} (h : w.grownBy w' r) (hk : w.heap.size ≤ k) (o : Nat) (v : Value) : w.grownBy (w'.setCell ⟨k, o, none⟩ v) r :=
  ⟨h.os, h.tape, h.output, by simpa [World.setCell] using h.size, fun j hj hne => (heap_set_other (by omega)).trans (h.block j hj hne)⟩

set_option maxRecDepth 100000 in
set_option maxHeartbeats 1000000 in
theorem constant_any (g b N cap p x y : Nat) (l : List Int) (w : World) (hr : RdAt w g b N cap l p) (hn : p + 16 ≤ N) (hx : W64 x) (hy : W64 y) (hv : validD x y = true) (h16 : Has16 l p x y) :
    Calls Try.prog 121 #[.pointer (some ⟨g, 0, none⟩)] w
      fun e w' => e = .returned (.agg #[.float .f64 x, .float .f64 y]) ∧ w.grownBy w' (some g) ∧ RdAt w' g b N cap l (p + 16) := by
  have HR := Lib.hid hr
  have hg := heap_lt hr.heap
  have R1 := Lib.hid (hr.alloc (.cells #[.float .f64 0, .float .f64 0] 31))
  have k1 := cell_heap (cs := [.slice (some ⟨b, 0, none⟩) N cap, .int .i64 (p : Int)]) hr.heap 1 _ rfl
  have CG : Hid (∀ w', RdAt w' g b N cap l (p + 16) → Calls Try.prog 151 #[.slice (some ⟨b, p, none⟩) 16 16] w' fun e w'' => e = .returned (.tuple #[.agg #[.float .f64 x, .float .f64 y], .int .i64 0]) ∧ Below w'.heap.size w' w'') := Lib.hid (fun w' h =>
    get_any b p x y hx hy hv w' h.lt ⟨fun i hi => by rw [h.byte (p + i) (by omega), h16.1 i hi], fun i hi => by rw [h.byte (p + 8 + i) (by omega), h16.2 i hi]⟩)
  clear hr hx hy hv h16
  go_enter Try.func121, Try.ntmps121
  go_wp2_with fail
  refine (take_any g b N cap p 16 l _ R1.out hn (by omega)).mono ?_
  rintro e1 w1 ⟨rfl, hg1, hr1⟩
  have G1 : Hid (w.grownBy w1 (some g)) := Lib.hid (grown_trans (World.grownBy_alloc w _ _) hg1)
  have RS : Hid (w1.heap[w.heap.size]? = some (.cells #[.float .f64 0, .float .f64 0] 31 (0, 0))) := Lib.hid (grown_heap hg1 (heap_alloc_new w _) (by omega))
  have HR1 := Lib.hid hr1
  clear hg1 hr1 k1
  go_wp2_with fail
  refine (CG.out _ HR1.out).mono ?_
  rintro e2 w2 ⟨rfl, hb2⟩
  have HR2 := Lib.hid (HR1.out.below hb2)
  have G2 := Lib.hid (grown_trans G1.out (grown_below hb2))
  have RS2 := Lib.hid (below_heap hb2 RS.out)
  clear hb2
  have q0 := cell_heap (cs := [.float .f64 0, .float .f64 0]) RS2.out 0 _ rfl
  have q1 := cell_heap (cs := [.float .f64 0, .float .f64 0]) RS2.out 1 _ rfl
  have f0 := frozen_heap RS2.out 0
  have f1 := frozen_heap RS2.out 1
  have hz := heap_lt RS2.out
  have hne : w2.heap.size ≠ w.heap.size := by omega
  go_wp2
  all_goals
    refine bodyPost_ret (v := .agg #[.float .f64 x, .float .f64 y]) (by simp [results, Try.results121, go_sem, *]) rfl ⟨rfl, ?_, ?_⟩
    · exact grown_trans (grown_setNew (grown_setNew G2.out (Nat.le_refl _) 0 _) (Nat.le_refl _) 1 _) (World.grownBy_alloc _ _ _)
    · have hbl := HR.out.lt
      exact ((HR2.out.set (k := w.heap.size) (by omega) (by omega) 0 _).set (k := w.heap.size) (by omega) (by omega) 1 _).alloc _

end Go.Proofs.Ytamaeggkpdgaiaa
