/- The walks that make lists of intervals of patterns. -/
import Derived.Test.YtamaeggkpdgaiaaWe
import Derived.Test.YtamaeggkpdgaiaaGb
import Derived.OwnWalk
namespace Go.Proofs.Ytamaeggkpdgaiaa
open Go.RowKit

/-- Intervals by their ends' patterns, as structs of words, of floats. -/
def fU (L : Nat → Nat × Nat) (i j : Nat) : Value := if j = 0 then .int .u64 ((L i).1 : Int) else .int .u64 ((L i).2 : Int)
def fF (L : Nat → Nat × Nat) (i j : Nat) : Value := if j = 0 then .float .f64 (L i).1 else .float .f64 (L i).2

theorem infoF : (Try.prog.info? 31).map (fun i => (i.zero, i.size, i.bytes)) = some (some (.agg #[.float .f64 0, .float .f64 0]), 2, 16) := by kernel_rfl

set_option maxRecDepth 100000 in
set_option maxHeartbeats 400000 in
theorem in16_any (x y : Nat) (w : World) :
    Calls Try.prog 108 #[.agg #[.int .u64 (x : Int), .int .u64 (y : Int)]] w fun e w' => e = .returned (.agg #[.float .f64 x, .float .f64 y]) ∧ Below w.heap.size w w' := by
  go_enter Try.func108, Try.ntmps108
  go_wp2
  refine region_tail 7 (by kernel_rfl) (by kernel_rfl) ?_
  simp only [List.take_succ_cons, List.take_zero, List.drop_succ_cons, List.drop_zero]
  repeat (refine wpStill_step (fun K hK => ?_); go_simp; first | (refine hK _ ?_; clear hK K))
  try refine wpStill_nil ?_
  go_wp2
  all_goals
    refine bodyPost_ret (v := .agg #[.float .f64 x, .float .f64 y]) (by simp [results, Try.results108, go_sem, *]) rfl ⟨rfl, (by repeat (first | exact Below.refl _ _ | (refine Below.alloc ?_ (by first | exact Nat.le_refl _ | omega | (simp; done) | (simp; omega)) _) | refine Below.drew ?_ | (refine Below.setCell ?_ (by first | exact Nat.le_refl _ | omega | (simp; done) | (simp; omega)) _)))⟩

/-- What a list that was made owns. -/
def OwnL (E c : Nat) (n : Nat) (F : Nat → Nat → Value) (B : Nat) (e : Ending) (w w' : World) : Prop := ∃ A cap, e = .returned (.slice A n cap) ∧ w'.ownsRow B E c (.slice A n cap) n (flatN n c F) ∧ Below B w w'

set_option maxRecDepth 100000 in
set_option maxHeartbeats 1000000 in
theorem box_any (A : Option Addr) (n cap : Nat) (L : Nat → Nat × Nat) (w : World) (hn : n * 16 ≤ 140737488351232) (hr : RowN w w.heap.size 2 A n (fU L)) :
    Calls Try.prog 64 #[.slice A n cap] w fun e w' => OwnL 31 2 n (fF L) w.heap.size e w w' := by
  obtain ⟨i0, hi, hz0, hz1, hz2⟩ := info_parts infoF
  generalize hB : w.heap.size = B at *
  have HB := Lib.hid hB
  have HR := Lib.hid hr; clear hr
  go_enter Try.func64, Try.ntmps64
  go_wp2
  go_loopw [3, 4] (fun v i wr => ∃ k : Nat, k ≤ n ∧ i = .int .i64 k ∧ wr.ownsRow B 31 2 v k (flatN k 2 (fF L)) ∧ Below B w wr) (fun _ i _ => n - (intOf i).toNat)
  case atStart => exact ⟨0, Nat.zero_le _, rfl, ⟨rfl, Or.inl ⟨rfl, rfl⟩⟩, Below.refl _ _⟩
  case round =>
    obtain ⟨k, hk, rfl, hown, hbel⟩ := hrel
    by_cases hlt : k < n
    · obtain ⟨b, off, rfl, hbB, hcell⟩ := HR.out (by omega)
      have c0 : wr.cell? ⟨b, off + k * 2, none⟩ = some (.int .u64 ((L k).1 : Int)) := by rw [hbel.cell (p := ⟨b, _, none⟩) hbB]; exact hcell k hlt 0 (by omega)
      have c1 : wr.cell? ⟨b, off + k * 2 + 1, none⟩ = some (.int .u64 ((L k).2 : Int)) := by rw [hbel.cell (p := ⟨b, _, none⟩) hbB]; exact hcell k hlt 1 (by omega)
      have Hcell := Lib.hid hcell; clear hcell
      have HBel := Lib.hid hbel; have HOwn := Lib.hid hown; clear hbel hown hB
      go_wp2_with fail
      refine (in16_any _ _ _).mono ?_
      rintro e w1 ⟨rfl, hb⟩
      clear c0 c1
      have hown1 := own_below HOwn.out hb
      have hsz := hb.size
      have HB1 := Lib.hid hb; have HO1 := Lib.hid hown1; clear hb hown1
      go_wp2_with (at_builtin; (refine wpList_append_own _ rfl _ _ 64 rfl B 31 i0 _ 2 16 Try.underlying64 hi hz0 hz1 hz2 rfl (by decide) _ k _ rfl (HO1.out.alloc _) ⟨w1.heap.size, 0, none⟩ 1 1 [.float .f64 (L k).1, .float .f64 (L k).2] rfl rfl ?c1 ?c2 ?c3 ?c4 ?c5 ?_))
      case c1 => exact new_cells w1 [.float .f64 (L k).1, .float .f64 (L k).2] _
      case c2 => intro u hu; simp at hu; rcases hu with rfl | rfl <;> rfl
      case c3 => unfold maxLen; omega
      case c4 => omega
      case c5 => have h1 := HBel.out.size; have h2 := HB.out; simp; omega
      intro v' w2 hown2 hgrow _
      have hrel2 : Hid (w2.ownsRow B 31 2 v' (k + 1) (flatN (k + 1) 2 (fF L)) ∧ Below B w w2) := Lib.hid ⟨by rw [flatN_succ]; exact hown2, below_grown HBel.out HB1.out (by have h1 := HBel.out.size; have h2 := HB.out; omega) HO1.out hgrow⟩
      clear hown2 hgrow hsz
      go_wp2
      go_roundw
      case rel => exact ⟨k + 1, by omega, by go_num, hrel2.out.1, hrel2.out.2⟩
      case measure => simp [intOf]; omega
    · have hkn : k = n := by omega
      subst hkn
      have HBel := Lib.hid hbel; have HOwn := Lib.hid hown; clear hbel hown hB
      go_wp2
      go_ret
      obtain ⟨A', cap', rfl⟩ := own_form HOwn.out
      exact ⟨A', cap', rfl, HOwn.out, HBel.out⟩

end Go.Proofs.Ytamaeggkpdgaiaa
