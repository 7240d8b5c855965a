/- The walks of the reader: take, number. -/
import Derived.Test.YtamaeggkpdgaiaaEd
import Derived.BigQuiet
namespace Go.Proofs.Ytamaeggkpdgaiaa
open Go.RowKit

/-- A reader at block g: it reads the bytes l in block b, and has come to p. -/
structure RdAt (w : World) (g b N cap : Nat) (l : List Int) (p : Nat) : Prop where
  heap : w.heap[g]? = some (.cells #[.slice (some ⟨b, 0, none⟩) N cap, .int .i64 (p : Int)] 155 (0, 0))
  len : l.length = N
  cap : N ≤ cap
  small : N ≤ 1000000
  byte : ∀ i, i < N → w.cell? ⟨b, i, none⟩ = some (.int .u8 (l.getD i 0))
  lt : b < w.heap.size
  ne : b ≠ g

theorem RdAt.moved {w w' : World} {g b N cap p q : Nat} {l : List Int} (h : RdAt w g b N cap l p) (hg : w.grownBy w' (some g)) (hh : w'.heap[g]? = some (.cells #[.slice (some ⟨b, 0, none⟩) N cap, .int .i64 (q : Int)] 155 (0, 0))) : RdAt w' g b N cap l q :=
  ⟨hh, h.len, h.cap, h.small, fun i hi => by rw [World.cell?_of_block (hg.block b h.lt (by intro e; injection e with e; exact h.ne e))]; exact h.byte i hi, Nat.lt_of_lt_of_le h.lt hg.size, h.ne⟩
theorem grown_trans {w w' w'' : World} {r : Option Nat} (h : w.grownBy w' r) (h2 : w'.grownBy w'' r) : w.grownBy w'' r :=
  ⟨h2.os.trans h.os, h2.tape.trans h.tape, h2.output.trans h.output, Nat.le_trans h.size h2.size, fun k hk hne => (h2.block k (Nat.lt_of_lt_of_le hk h.size) hne).trans (h.block k hk hne)⟩
theorem grown_below {w w' : World} {r : Option Nat} (h : Below w.heap.size w w') : w.grownBy w' r := ⟨h.os, h.tape, h.output, h.size, fun k hk _ => h.block k hk⟩

theorem frozen_heap {w : World} {g : Nat} {cs : Array Value} {T : TypeId} (hh : w.heap[g]? = some (.cells cs T (0, 0))) (o : Nat) : w.frozen? ⟨g, o, none⟩ = false := by
  unfold World.frozen?; rw [hh]; simp
theorem heap_set1 {w : World} {g : Nat} {a b v : Value} {T : TypeId} (hh : w.heap[g]? = some (.cells #[a, b] T (0, 0))) : (w.setCell ⟨g, 1, none⟩ v).heap[g]? = some (.cells #[a, v] T (0, 0)) := by
  unfold World.setCell
  simp only [Array.getElem?_modify, hh, if_true, Option.map_some]
  simp
theorem grown_set (w : World) (g o : Nat) (v : Value) : w.grownBy (w.setCell ⟨g, o, none⟩ v) (some g) :=
  ⟨rfl, rfl, rfl, by simp [World.setCell], fun k _ hne => by
    have : k ≠ g := fun e => hne (by rw [e])
    unfold World.setCell
    simp [this.symm, Array.getElem?_modify]⟩

set_option maxRecDepth 100000 in
set_option maxHeartbeats 1000000 in
theorem take_any (g b N cap p n : Nat) (l : List Int) (w : World) (hr : RdAt w g b N cap l p) (hn : p + n ≤ N) (hn0 : 0 < n) :
    Calls Try.prog 150 #[.pointer (some ⟨g, 0, none⟩), .int .i64 (n : Int)] w
      fun e w' => e = .returned (.slice (some ⟨b, p, none⟩) n n) ∧ w.grownBy w' (some g) ∧ RdAt w' g b N cap l (p + n) := by
  have HR := Lib.hid hr
  have hN := hr.small; have hcap := hr.cap
  have k0 := cell_heap (cs := [.slice (some ⟨b, 0, none⟩) N cap, .int .i64 (p : Int)]) hr.heap 0 _ rfl
  have k1 := cell_heap (cs := [.slice (some ⟨b, 0, none⟩) N cap, .int .i64 (p : Int)]) hr.heap 1 _ rfl
  have hlt := heap_lt hr.heap
  clear hr
  have i1 : IntKind.i64.wrap ((N : Int) - (p : Int)) = (N : Int) - (p : Int) := IntWalk.i64_in _ ⟨by omega, by omega⟩
  have i2 : IntKind.i64.wrap ((p : Int) + (n : Int)) = (p : Int) + (n : Int) := IntWalk.i64_in _ ⟨by omega, by omega⟩
  have i3 : ¬ ((N : Int) - (p : Int) < (n : Int)) := by omega
  go_enter Try.func150, Try.ntmps150
  go_wp2_with fail
  refine region_quiet (by kernel_rfl) (by kernel_rfl) ?_
  repeat (refine wpQuiet_step (fun K hK => ?_); go_simp; first | (refine hK _ ?_; clear hK K))
  refine wpQuiet_nil ?_
  intro w1 hb1
  have hs1 : w.heap.size ≤ w1.heap.size := hb1.size
  have R1 : Hid (RdAt w1 g b N cap l p) := Lib.hid (HR.out.moved (grown_below hb1) ((hb1.block g hlt).trans HR.out.heap))
  have HB1 := Lib.hid hb1
  clear hb1 k0 k1
  have k0 := cell_heap (cs := [.slice (some ⟨b, 0, none⟩) N cap, .int .i64 (p : Int)]) R1.out.heap 0 _ rfl
  have k1 := cell_heap (cs := [.slice (some ⟨b, 0, none⟩) N cap, .int .i64 (p : Int)]) R1.out.heap 1 _ rfl
  have f1 : w1.frozen? ⟨g, 1, none⟩ = false := frozen_heap R1.out.heap 1
  have hlt1 : g < w1.heap.size := by omega
  go_wp2_with fail
  obtain ⟨W2, hW2⟩ : ∃ V : World, V = w1.setCell ⟨g, 1, none⟩ (.int .i64 ((p : Int) + (n : Int))) := ⟨_, rfl⟩
  have hh2 : W2.heap[g]? = some (.cells #[.slice (some ⟨b, 0, none⟩) N cap, .int .i64 ((p + n : Nat) : Int)] 155 (0, 0)) := by rw [hW2, Int.natCast_add]; exact heap_set1 R1.out.heap
  have G2 : Hid (w1.grownBy W2 (some g)) := Lib.hid (by rw [hW2]; exact grown_set w1 g 1 _)
  have R2 : Hid (RdAt W2 g b N cap l (p + n)) := Lib.hid (R1.out.moved G2.out hh2)
  clear k0 k1 f1 hh2
  rw [← hW2]
  clear hW2
  have k0 := cell_heap (cs := [.slice (some ⟨b, 0, none⟩) N cap, .int .i64 ((p + n : Nat) : Int)]) R2.out.heap 0 _ rfl
  have k1 := cell_heap (cs := [.slice (some ⟨b, 0, none⟩) N cap, .int .i64 ((p + n : Nat) : Int)]) R2.out.heap 1 _ rfl
  rw [Int.natCast_add] at k1
  have hlt2 : g < W2.heap.size := heap_lt R2.out.heap
  have i4 : IntKind.i64.wrap (p : Int) = (p : Int) := IntWalk.i64_in _ ⟨by omega, by omega⟩
  have j1 : (0 : Int) ≤ (p : Int) := by omega
  have j2 : (p : Int) ≤ (p : Int) + (n : Int) := by omega
  have j3 : (p : Int) + (n : Int) ≤ (cap : Int) := by omega
  have j4 : ((p : Int) + (n : Int)).toNat = p + n := by omega
  have j5 : p + n - p = n := by omega
  refine region_quiet (by kernel_rfl) (by kernel_rfl) ?_
  repeat (refine wpQuiet_step (fun K hK => ?_); go_simp; first | (refine hK _ ?_; clear hK K))
  refine wpQuiet_nil ?_
  intro w3 hb3
  go_wp2
  go_ret
  have G3 : w.grownBy w3 (some g) := grown_trans (grown_trans (grown_below HB1.out) G2.out) (grown_below hb3)
  exact ⟨rfl, G3, HR.out.moved G3 ((hb3.block g hlt2).trans R2.out.heap)⟩

theorem or_i64 (i a b : Nat) (ha : a < 2 ^ i) (hb : b % 2 ^ i = 0) (ha2 : a < 9223372036854775808) (hs : a + b < 9223372036854775808) : bits .or .i64 (a : Int) (b : Int) = ((a + b : Nat) : Int) := by
  have h1 : (BitVec.ofInt 64 (a : Int)).toNat = a := by
    rw [BitVec.ofInt_natCast, BitVec.toNat_ofNat]; exact Nat.mod_eq_of_lt (by omega)
  have h2 : (BitVec.ofInt 64 (b : Int)).toNat = b := by
    rw [BitVec.ofInt_natCast, BitVec.toNat_ofNat]; exact Nat.mod_eq_of_lt (by omega)
  have h3 : a ||| b = a + b := by
    rw [Nat.or_comm, Nat.add_comm]; exact nat_join i b a hb ha
  show IntKind.i64.wrap (((BitVec.ofInt 64 (a : Int) ||| BitVec.ofInt 64 (b : Int)).toNat : Nat) : Int) = _
  rw [BitVec.toNat_or, h1, h2, h3]
  exact IntWalk.i64_in _ ⟨by omega, by omega⟩
theorem or0 (a : Int) (h0 : 0 ≤ a) (h1 : a < 256) : bits .or .i64 0 a = a := by
  obtain ⟨n, rfl⟩ : ∃ n : Nat, a = n := ⟨a.toNat, by omega⟩
  have := or_i64 0 0 n (by decide) (by omega) (by decide) (by omega)
  simpa using this
theorem or1 (a b : Int) (h0 : 0 ≤ a) (h1 : a < 256) (g0 : 0 ≤ b) (g1 : b < 256) : bits .or .i64 a (b * 256) = a + b * 256 := by
  obtain ⟨n, rfl⟩ : ∃ n : Nat, a = n := ⟨a.toNat, by omega⟩
  obtain ⟨m, rfl⟩ : ∃ m : Nat, b = m := ⟨b.toNat, by omega⟩
  have := or_i64 8 n (m * 256) (by omega) (by omega) (by omega) (by omega)
  simpa using this

/-- A number of n bytes, from p on. -/
def rawV (l : List Int) (p n : Nat) : Int := if n = 1 then l.getD p 0 else l.getD p 0 + l.getD (p + 1) 0 * 256
def sigV (lo v : Int) : Int := if lo < 0 ∧ 32768 ≤ v then v - 65536 else v

set_option maxRecDepth 100000 in
set_option maxHeartbeats 1000000 in
theorem readN_any (g b N cap p n : Nat) (l : List Int) (lo hi : Int) (w : World) (hr : RdAt w g b N cap l p) (hb : ∀ i, 0 ≤ l.getD i 0 ∧ l.getD i 0 < 256) (hn : p + n ≤ N) (hn2 : n = 1 ∨ n = 2)
    (h1 : lo ≤ sigV lo (rawV l p n)) (h2 : sigV lo (rawV l p n) ≤ hi) :
    Calls Try.prog 120 #[.pointer (some ⟨g, 0, none⟩), .int .i64 (n : Int), .int .i64 lo, .int .i64 hi] w
      fun e w' => e = .returned (.int .i64 (sigV lo (rawV l p n))) ∧ w.grownBy w' (some g) ∧ RdAt w' g b N cap l (p + n) := by
  have HR := Lib.hid hr
  have k1 := cell_heap (cs := [.slice (some ⟨b, 0, none⟩) N cap, .int .i64 (p : Int)]) hr.heap 1 _ rfl
  have hlt := heap_lt hr.heap
  have hn0 : 0 < n := by omega
  clear hr
  go_enter Try.func120, Try.ntmps120
  go_wp2_with fail
  refine (take_any g b N cap p n l w HR.out hn hn0).mono ?_
  rintro e1 w1 ⟨rfl, hg1, hr1⟩
  have HG1 := Lib.hid hg1; have HR1 := Lib.hid hr1
  clear hg1 hr1
  have hV : -9223372036854775808 + 65536 ≤ rawV l p n ∧ rawV l p n ≤ 65535 := by
    have a0 := hb p; have a1 := hb (p + 1)
    unfold rawV; split <;> omega
  go_wp2
  go_loop [10, 21] (fun v iv => ∃ k : Nat, k ≤ n ∧ (k = 0 ∧ v = .int .i64 0 ∨ k = 1 ∧ v = .int .i64 (l.getD p 0) ∨ k = 2 ∧ v = .int .i64 (l.getD p 0 + l.getD (p + 1) 0 * 256)) ∧ iv = .int .i64 (k : Int)) (fun _ iv => n - (intOf iv).toNat)
  case atStart => exact ⟨0, by omega, Or.inl ⟨rfl, rfl⟩, rfl⟩
  case round =>
    obtain ⟨k, hk, hv, rfl⟩ := hrel
    by_cases hkn : k < n
    · have hN := HR1.out.small
      have hlb := HR1.out.lt
      rcases hv with ⟨rfl, rfl⟩ | ⟨rfl, rfl⟩ | ⟨rfl, rfl⟩
      · have hkn' : (0 : Int) < (n : Int) := by omega
        have c0 := HR1.out.byte p (by omega)
        have o0 := or0 (l.getD p 0) (hb p).1 (hb p).2
        have w0 : IntKind.i64.wrap (l.getD p 0) = l.getD p 0 := by have := hb p; exact IntWalk.i64_in _ ⟨by omega, by omega⟩
        generalize l.getD p 0 = z0 at *
        go_wp2
        go_round
        case rel => exact ⟨1, by omega, Or.inr (Or.inl ⟨rfl, rfl⟩), by go_num⟩
        case measure => simp [intOf]; omega
      · have hkn' : (1 : Int) < (n : Int) := by omega
        have c0 := HR1.out.byte (p + 1) (by omega)
        have o0 := or1 (l.getD p 0) (l.getD (p + 1) 0) (hb p).1 (hb p).2 (hb (p + 1)).1 (hb (p + 1)).2
        have w0 : wrap64 (l.getD (p + 1) 0 * 256) = l.getD (p + 1) 0 * 256 := by have := hb (p + 1); exact IntWalk.wrap64_in _ ⟨by omega, by omega⟩
        have w1' : wrap64 (l.getD (p + 1) 0) = l.getD (p + 1) 0 := by have := hb (p + 1); exact IntWalk.wrap64_in _ ⟨by omega, by omega⟩
        generalize l.getD (p + 1) 0 = z1 at *
        generalize l.getD p 0 = z0 at *
        go_wp2
        go_round
        case rel => exact ⟨2, by omega, Or.inr (Or.inr ⟨rfl, rfl⟩), by go_num⟩
        case measure => simp [intOf]; omega
      · omega
    · have hkn' : k = n := by omega
      subst hkn'
      have hv2 : u10 = .int .i64 (rawV l p k) := by
        unfold rawV
        rcases hn2 with rfl | rfl
        · rcases hv with ⟨h, _⟩ | ⟨_, h⟩ | ⟨h, _⟩
          · omega
          · exact h
          · omega
        · rcases hv with ⟨h, _⟩ | ⟨h, _⟩ | ⟨_, h⟩
          · omega
          · omega
          · exact h
      clear hv
      subst hv2
      obtain ⟨V, hVV⟩ : ∃ V, V = rawV l p k := ⟨_, rfl⟩
      rw [← hVV] at h1 h2 hV ⊢
      have HVV := Lib.hid hVV
      clear hVV
      have FIN : Hid (w.grownBy w1 (some g) ∧ RdAt w1 g b N cap l (p + k)) := Lib.hid ⟨HG1.out, HR1.out⟩
      by_cases c1 : lo < 0
      · by_cases c2 : 32768 ≤ V
        · have HS : Hid (sigV lo (rawV l p k) = V - 65536) := Lib.hid (by rw [← HVV.out]; unfold sigV; rw [if_pos ⟨c1, c2⟩])
          rw [show sigV lo V = V - 65536 from by unfold sigV; rw [if_pos ⟨c1, c2⟩]] at h1 h2
          have i1 : wrap64 (V - 65536) = V - 65536 := by exact IntWalk.wrap64_in _ ⟨by omega, by omega⟩
          have i2 : ¬ (V - 65536 < lo) := by omega
          have i3 : ¬ (hi < V - 65536) := by omega
          clear h1 h2
          go_wp2
          go_ret
          exact ⟨by rw [HS.out]; rfl, FIN.out⟩
        · have HS : Hid (sigV lo (rawV l p k) = V) := Lib.hid (by rw [← HVV.out]; unfold sigV; rw [if_neg (fun h => c2 h.2)])
          rw [show sigV lo V = V from by unfold sigV; rw [if_neg (fun h => c2 h.2)]] at h1 h2
          have i2 : ¬ (V < lo) := by omega
          have i3 : ¬ (hi < V) := by omega
          clear h1 h2
          go_wp2
          go_ret
          exact ⟨by rw [HS.out]; rfl, FIN.out⟩
      · have HS : Hid (sigV lo (rawV l p k) = V) := Lib.hid (by rw [← HVV.out]; unfold sigV; rw [if_neg (fun h => c1 h.1)])
        rw [show sigV lo V = V from by unfold sigV; rw [if_neg (fun h => c1 h.1)]] at h1 h2
        have i2 : ¬ (V < lo) := by omega
        have i3 : ¬ (hi < V) := by omega
        clear h1 h2
        go_wp2
        go_ret
        exact ⟨by rw [HS.out]; rfl, FIN.out⟩

end Go.Proofs.Ytamaeggkpdgaiaa
