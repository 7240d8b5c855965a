/- The walk of expr.Decode, over the bytes of a program. -/
import Derived.Test.YtamaeggkpdgaiaaEk
import Derived.Defers
import Derived.Recover
namespace Go.Proofs.Ytamaeggkpdgaiaa
open Go.RowKit

theorem decode_idle (a b c : Value) (w : World) :
    CallsD Try.prog 81 #[a, b, c] .returning w fun e u' w' => e = .returned (.tuple #[]) ∧ u' = .returning ∧ w' = w := by
  refine callsD_of_wpS Try.func81 rfl fun c₀ cs hu => ?_
  apply wpS_seq
  apply wpS_region
  simp [wpOpsS, go_sem, recoverD, hu, Try.ntmps81, Exit.thenS]
  apply wpS_seq
  apply wpS_region
  simp [wpOpsS, go_sem, Exit.thenS]
  refine wpS_cond (t := false) (by simp [Act.eval, Array.replicate]) ?_
  simp only [Bool.false_eq_true, if_false]
  refine wpS_of_wp (wp_skip ?_)
  cases c₀
  simp_all [bodyPostS, results, Try.results81]

/-- What Decode answers. -/
def DecP (vars : Int) (n m : Nat) (L : Nat → Nat × Nat) (C : Nat → Nat → Int) (e : Ending) (w w' : World) : Prop :=
  ∃ A1 cp1 A2 cp2, e = .returned (.tuple #[.agg #[.int .i64 vars, .slice A1 n cp1, .slice A2 m cp2], .int .i64 0, .int .i64 0]) ∧ w'.ownsRow w.heap.size 31 2 (.slice A1 n cp1) n (flatN n 2 (fF L)) ∧
    w'.ownsRow w.heap.size 117 5 (.slice A2 m cp2) m (flatN m 5 (fI C)) ∧ Below w.heap.size w w'

set_option maxRecDepth 100000 in
set_option maxHeartbeats 2000000 in
theorem decode_any (b N cap n m : Nat) (vars : Int) (L : Nat → Nat × Nat) (C : Nat → Nat → Int) (l : List Int) (w : World) (hN : l.length = N) (hcap : N ≤ cap) (hsm : N ≤ 1000000) (hbyte : ∀ i, i < N → w.cell? ⟨b, i, none⟩ = some (.int .u8 (l.getD i 0))) (hbl : b < w.heap.size)
    (hb : ∀ i, 0 ≤ l.getD i 0 ∧ l.getD i 0 < 256) (hl : l = encP vars n m L C)
    (hL : ∀ i < n, W64 (L i).1 ∧ W64 (L i).2) (hv : 0 ≤ vars ∧ vars ≤ 32) (hn : n ≤ 256) (hm : 0 < m ∧ m ≤ 1024) (hval : ∀ i < n, validD (L i).1 (L i).2 = true) (hok : ∀ i < m, LineOk vars n i C) :
    Calls Try.prog 39 #[.slice (some ⟨b, 0, none⟩) N cap] w fun e w' => DecP vars n m L C e w w' := by
  have RP : Hid (∀ w', Below w.heap.size w w' → w'.heap[w.heap.size + 3]? = some (.cells #[.slice (some ⟨b, 0, none⟩) N cap, .int .i64 0] 155 (0, 0)) → Calls Try.prog 82 #[.pointer (some ⟨w.heap.size + 3, 0, none⟩)] w' fun e w'' => PrgP (w.heap.size + 3) vars n m L C e w' w'') := Lib.hid (fun w' h hh =>
    program_any (w.heap.size + 3) b N cap n m vars L C l w' ⟨hh, hN, hcap, hsm, fun i hi => (h.cell (p := ⟨b, i, none⟩) hbl).trans (hbyte i hi), Nat.lt_of_lt_of_le hbl h.size, by omega⟩ hb hl hL hv hn hm hval hok)
  clear hN hcap hsm hbyte hb hl hL hval hok
  have hmf : ∀ (fn : Fn) (first cap : Array Value) (w : World), (Instr.makeFunc fn first cap).run Try.prog w = .ok (.func fn first cap) w := fun _ _ _ _ => rfl
  go_enter_defers Try.func39, Try.ntmps39
  go_wp2_with fail
  obtain ⟨V1, hV1⟩ : ∃ V : World, V = w.alloc (.cells #[.int .i64 0, .slice none 0 0, .slice none 0 0] 67) := ⟨_, rfl⟩
  obtain ⟨V2, hV2⟩ : ∃ V : World, V = V1.alloc (.cells #[.int .i64 0] 3) := ⟨_, rfl⟩
  obtain ⟨V3, hV3⟩ : ∃ V : World, V = V2.alloc (.cells #[.int .i64 0] 61) := ⟨_, rfl⟩
  obtain ⟨V4, hV4⟩ : ∃ V : World, V = V3.alloc (.cells #[.slice (some ⟨b, 0, none⟩) N cap, .int .i64 0] 155) := ⟨_, rfl⟩
  have s1 : V1.heap.size = w.heap.size + 1 := by rw [hV1]; simp
  have s2 : V2.heap.size = w.heap.size + 2 := by rw [hV2]; simp; omega
  have s3 : V3.heap.size = w.heap.size + 3 := by rw [hV3]; simp; omega
  have s4 : V4.heap.size = w.heap.size + 4 := by rw [hV4]; simp; omega
  have a1 : V1.heap[w.heap.size]? = some (.cells #[.int .i64 0, .slice none 0 0, .slice none 0 0] 67 (0, 0)) := by rw [hV1]; exact heap_alloc_new w _
  have a2 : V2.heap[w.heap.size]? = some (.cells #[.int .i64 0, .slice none 0 0, .slice none 0 0] 67 (0, 0)) := by rw [hV2]; exact (heap_alloc_old _ _ (by omega)).trans a1
  have b2 : V2.heap[w.heap.size + 1]? = some (.cells #[.int .i64 0] 3 (0, 0)) := by rw [hV2, ← s1]; exact heap_alloc_new V1 _
  have a3 : V3.heap[w.heap.size]? = some (.cells #[.int .i64 0, .slice none 0 0, .slice none 0 0] 67 (0, 0)) := by rw [hV3]; exact (heap_alloc_old _ _ (by omega)).trans a2
  have b3 : V3.heap[w.heap.size + 1]? = some (.cells #[.int .i64 0] 3 (0, 0)) := by rw [hV3]; exact (heap_alloc_old _ _ (by omega)).trans b2
  have c3 : V3.heap[w.heap.size + 2]? = some (.cells #[.int .i64 0] 61 (0, 0)) := by rw [hV3, ← s2]; exact heap_alloc_new V2 _
  have a4 : V4.heap[w.heap.size]? = some (.cells #[.int .i64 0, .slice none 0 0, .slice none 0 0] 67 (0, 0)) := by rw [hV4]; exact (heap_alloc_old _ _ (by omega)).trans a3
  have b4 : V4.heap[w.heap.size + 1]? = some (.cells #[.int .i64 0] 3 (0, 0)) := by rw [hV4]; exact (heap_alloc_old _ _ (by omega)).trans b3
  have c4 : V4.heap[w.heap.size + 2]? = some (.cells #[.int .i64 0] 61 (0, 0)) := by rw [hV4]; exact (heap_alloc_old _ _ (by omega)).trans c3
  have d4 : V4.heap[w.heap.size + 3]? = some (.cells #[.slice (some ⟨b, 0, none⟩) N cap, .int .i64 0] 155 (0, 0)) := by rw [hV4, ← s3]; exact heap_alloc_new V3 _
  have B4 : Hid (Below w.heap.size w V4) := Lib.hid (by rw [hV4, hV3, hV2, hV1]; exact ((((Below.refl _ _).alloc (Nat.le_refl _) _).alloc (by simp) _).alloc (by simp; omega) _).alloc (by simp; omega) _)
  rw [← hV1, ← hV2, ← hV3, ← hV4]
  clear hV1 hV2 hV3 hV4
  refine (RP.out V4 B4.out d4).mono ?_
  rintro e1 w1 ⟨A1, cp1, A2, cp2, rfl, o1, o2, hg⟩
  have a5 := grown_heap hg a4 (by omega)
  have b5 := grown_heap hg b4 (by omega)
  have c5 := grown_heap hg c4 (by omega)
  have B5 : Hid (Below w.heap.size w w1) := Lib.hid ⟨hg.os.trans B4.out.os, hg.tape.trans B4.out.tape, hg.output.trans B4.out.output, Nat.le_trans B4.out.size hg.size, fun k hk => (hg.block k (by omega) (by intro e; injection e with e; omega)).trans (B4.out.block k hk)⟩
  have O1 := Lib.hid (own_mono o1 (base' := w.heap.size + 3) (by omega))
  have O2 := Lib.hid (own_mono o2 (base' := w.heap.size + 3) (by omega))
  have k0 := cell_heap (cs := [.int .i64 0, .slice none 0 0, .slice none 0 0]) a5 0 _ rfl
  have k1 := cell_heap (cs := [.int .i64 0, .slice none 0 0, .slice none 0 0]) a5 1 _ rfl
  have k2 := cell_heap (cs := [.int .i64 0, .slice none 0 0, .slice none 0 0]) a5 2 _ rfl
  have k3 := cell_heap (cs := [.int .i64 0]) b5 0 _ rfl
  have k4 := cell_heap (cs := [.int .i64 0]) c5 0 _ rfl
  have f0 := frozen_heap a5 0
  have f1 := frozen_heap a5 1
  have f2 := frozen_heap a5 2
  have f3 := frozen_heap b5 0
  have f4 := frozen_heap c5 0
  have hz := heap_lt c5
  clear s1 s2 s3 s4 a1 a2 a3 a4 b2 b3 b4 c3 c4 d4 o1 o2 hg a5 b5 c5
  go_wp2
  refine leaves_cons (f := 81) (args := #[.pointer (some ⟨w.heap.size, 0, none⟩), .pointer (some ⟨w.heap.size + 1, 0, none⟩), .pointer (some ⟨w.heap.size + 1 + 1, 0, none⟩)]) (by simp) (by simp [go_sem]) ?_
  refine (decode_idle _ _ _ _).mono ?_
  rintro e u' w'' ⟨rfl, rfl, rfl⟩
  refine ⟨.tuple #[.agg #[.int .i64 vars, .slice A1 n cp1, .slice A2 m cp2], .int .i64 0, .int .i64 0], by simp [results, Try.results39, go_sem, *], A1, cp1, A2, cp2, rfl, ?_, ?_, ?_⟩
  · exact own_mono (ownsRow_setCell_below (ownsRow_setCell_below (ownsRow_setCell_below (ownsRow_setCell_below (ownsRow_setCell_below O1.out (by simp) _) (by simp) _) (by simp) _) (by simp) _) (by simp) _) (by omega)
  · exact own_mono (ownsRow_setCell_below (ownsRow_setCell_below (ownsRow_setCell_below (ownsRow_setCell_below (ownsRow_setCell_below O2.out (by simp) _) (by simp) _) (by simp) _) (by simp) _) (by simp) _) (by omega)
  · exact ((((B5.out.setCell (by simp) _).setCell (by simp) _).setCell (by simp) _).setCell (by simp) _).setCell (by simp; omega) _

end Go.Proofs.Ytamaeggkpdgaiaa
