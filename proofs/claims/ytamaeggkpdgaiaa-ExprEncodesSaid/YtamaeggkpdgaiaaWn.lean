import Derived.Test.YtamaeggkpdgaiaaWm
import Derived.Deep.RegionWith
import Derived.Deep.DeepCutAuto
namespace Go.Proofs.Ytamaeggkpdgaiaa
open Go.RowKit

set_option maxRecDepth 100000 in
set_option maxHeartbeats 2000000 in
theorem made_any (vars : Int) (A A2 : Option Addr) (n cap m cap2 : Nat) (L : Nat → Nat × Nat) (C : Nat → Nat → Int) (w : World) (hn : n * 16 ≤ 140737488351232) (hm : m * 40 ≤ 140737488351232)
    (hr : RowN w w.heap.size 2 A n (fU L)) (hr2 : RowN w w.heap.size 5 A2 m (fI C)) :
    Calls Try.prog 27 #[.agg #[.int .i64 vars, .slice A n cap, .slice A2 m cap2]] w fun e w' => MadeP vars n m L C w e w' := by
  obtain ⟨i0, hi, hz0, hz1, hz2⟩ := info_parts infoI
  have HR := Lib.hid hr; clear hr
  have HR2 := Lib.hid hr2; clear hr2
  go_enter Try.func27, Try.ntmps27
  go_wp2_with fail
  go_upto_region 1 with (fail)
  go_cut [3] (fun v wr => ∃ g A1 cp1, v = .pointer (some ⟨g, 0, none⟩) ∧ CutM w g A1 cp1 vars A A2 n cap m cap2 L wr)
  case first =>
    go_region_with (go_at_call 64; refine (box_any _ _ _ L _ hn (by exact (HR.out.below (by repeat (first | exact Below.refl _ _ | (refine Below.alloc ?_ (by first | exact Nat.le_refl _ | omega | (simp; done) | (simp; omega)) _) | refine Below.drew ?_))).more (by simp; omega))).mono ?_; rintro e w1 ⟨A1, cp1, rfl, hown1, hb1⟩; obtain ⟨hc, hf⟩ := bcell hb1; have hz0 : w.heap.size < w1.heap.size := (by have := hb1.size; simp at this; omega); have hz1 : w.heap.size + 1 < w1.heap.size := (by have := hb1.size; simp at this; omega); (try have hz2 : w.heap.size + 2 < w1.heap.size := (by have := hb1.size; simp at this; omega)))
    all_goals
      go_wp2_with fail
      go_meet
      have hbb := below_then (w := w) (by repeat (first | exact Below.refl _ _ | (refine Below.alloc ?_ (by first | exact Nat.le_refl _ | omega | (simp; done) | (simp; omega)) _) | refine Below.drew ?_)) hb1
      first
        | (refine ⟨_, _, _, rfl, cutM_after ?_ hz1 ?_ hbb ?_ ?_ ?_ ?_⟩
           · rw [hc _ _ (by simp; omega)]; simp [go_sem]
           · exact own_mono hown1 (by simp)
           · rw [hc _ _ (by simp)]; simp [go_sem]
           · rw [hc _ _ (by simp)]; simp [go_sem]
           · rw [hc _ _ (by simp)]; simp [go_sem]
           · intro o; rw [hf _ _ (by simp)]; simp [go_sem])
        | (refine ⟨_, _, _, rfl, cutM_before ?_ hz2 ?_ ?_ ?_ ?_ ?_ hbb ?_ ?_ ?_ ?_⟩
           · rw [hc _ _ (by simp; omega)]; simp [go_sem]
           · rw [hc _ _ (by simp)]; simp [go_sem]
           · rw [hc _ _ (by simp)]; simp [go_sem]
           · rw [hc _ _ (by simp)]; simp [go_sem]
           · rw [hf _ _ (by simp)]; simp [go_sem]
           · exact own_mono hown1 (by simp)
           · rw [hc _ _ (by simp)]; simp [go_sem]
           · rw [hc _ _ (by simp)]; simp [go_sem]
           · rw [hc _ _ (by simp)]; simp [go_sem]
           · intro o; rw [hf _ _ (by simp)]; simp [go_sem])
  case rest =>
    obtain ⟨g, A1, cp1, rfl, hm0⟩ := hcut
    have HM := Lib.hid hm0; clear hm0
    go_wp2_with fail
    go_loopw [4, 5] (fun i _ wr => ∃ k : Nat, k ≤ m ∧ i = .int .i64 k ∧ RelM w g A1 cp1 vars A2 n m cap2 L C k wr) (fun i _ _ => m - (intOf i).toNat)
    case atStart => exact ⟨0, Nat.zero_le _, rfl, HM.out.start⟩
    case round =>
      obtain ⟨k, hk, rfl, hrel⟩ := hrel
      have HRel := Lib.hid hrel
      obtain ⟨A', cp', hc2, hown⟩ := hrel.code
      have HOwn := Lib.hid hown; clear hown
      have hp0 := hrel.p0
      have hf2 := hrel.f2
      have hg2 := hrel.hg2
      have hbel := hrel.bel
      have hc0 := hrel.c0
      have hc1 := hrel.c1
      have hr0 := hrel.r0; have hr1 := hrel.r1; have hr2 := hrel.r2; have hrf := hrel.rf
      clear hrel
      by_cases hlt : k < m
      · obtain ⟨b, off, rfl, hbB, hcell⟩ := HR2.out (by omega)
        have d : ∀ j, j < 5 → wr.cell? ⟨b, off + k * 5 + j, none⟩ = some (.int .i64 (C k j)) := fun j hj => by rw [hbel.cell (p := ⟨b, _, none⟩) hbB]; exact hcell k hlt j hj
        have d0 := d 0 (by omega); have d1 := d 1 (by omega); have d2 := d 2 (by omega); have d3 := d 3 (by omega); have d4 := d 4 (by omega)
        rw [Nat.add_zero] at d0
        have Hcell := Lib.hid hcell; have HBel := Lib.hid hbel; have hbs := hbel.size
        clear hcell d hbel
        go_wp2_with (at_builtin; (refine wpList_append_own _ rfl _ _ 65 rfl (g + 1) 117 i0 _ 5 40 Try.underlying65 hi hz0 hz1 hz2 rfl (by decide) _ k _ rfl ((HOwn.out.alloc _).alloc _) ⟨wr.heap.size + 1, 0, none⟩ 1 1 [.int .i64 (C k 0), .int .i64 (C k 1), .int .i64 (C k 2), .int .i64 (C k 3), .int .i64 (C k 4)] rfl rfl ?c1 ?c2 ?c3 ?c4 ?c5 ?_))
        case c1 =>
          have hnew := new_cells (wr.alloc (.cells #[.int .i64 (C k 0), .int .i64 (C k 1), .int .i64 (C k 2), .int .i64 (C k 3), .int .i64 (C k 4)] 120)) [.int .i64 (C k 0), .int .i64 (C k 1), .int .i64 (C k 2), .int .i64 (C k 3), .int .i64 (C k 4)] 117
          rw [show (wr.alloc (.cells #[.int .i64 (C k 0), .int .i64 (C k 1), .int .i64 (C k 2), .int .i64 (C k 3), .int .i64 (C k 4)] 120)).heap.size = wr.heap.size + 1 from by simp] at hnew
          exact hnew
        case c2 => intro u hu; simp at hu; rcases hu with rfl | rfl | rfl | rfl | rfl <;> rfl
        case c3 => unfold maxLen; omega
        case c4 => omega
        case c5 => simp; omega
        intro v' w2 hown2 hgrow _
        have hown3 := hown2
        rw [show [Value.int .i64 (C k 0), .int .i64 (C k 1), .int .i64 (C k 2), .int .i64 (C k 3), .int .i64 (C k 4)] = (List.range 5).map (fI C k) from rfl, ← flatN_succ] at hown3
        have hstep := Lib.hid (HRel.out.step HOwn.out hown3 hgrow)
        obtain ⟨q1, q2⟩ := HRel.out.at_g HOwn.out hc2 hgrow
        obtain ⟨An, cpn, rfl⟩ := own_form hown2
        clear hown2 hown3 hgrow d0 d1 d2 d3 d4 hc2 hp0 hf2 hc0 hc1 hr0 hr1 hr2 hrf
        go_wp2
        go_roundw
        case rel => exact ⟨k + 1, by omega, by go_num, hstep.out⟩
        case measure => simp [intOf]; omega
      · have hkm : k = m := by omega
        subst hkm
        have hgg := HRel.out.hg
        have HBel := Lib.hid hbel; clear hbel
        go_wp2
        refine bodyPost_ret (v := .agg #[.int .i64 vars, .slice A1 n cp1, .slice A' k cp']) (by simp [results, Try.results27, go_sem, *]) rfl (HRel.out.fin HOwn.out)

end Go.Proofs.Ytamaeggkpdgaiaa
