/- The program's bytes of a valid interval: ival.plain, ival.Read, pack.Put. -/
import Derived.Test.YtamaeggkpdgaiaaEb
namespace Go.Proofs.Ytamaeggkpdgaiaa
open Go.RowKit

set_option maxRecDepth 100000 in
set_option maxHeartbeats 400000 in
theorem plainI_any (x : Nat) (hx : W64 x) (hm : minusD x = false) (w : World) :
    Calls Try.prog 149 #[.float .f64 x] w fun e w' => e = .returned (.float .f64 x) ∧ w = w' := by
  have he := eqZero_f64 hx
  have hn : x ≠ 9223372036854775808 := by unfold minusD at hm; simpa using hm
  cases hz : decide (x = 0 ∨ x = 9223372036854775808)
  case false =>
    rw [hz] at he
    clear hz hm hn hx
    go_enter Try.func149, Try.ntmps149
    go_wp2
    go_ret
    exact ⟨rfl, rfl⟩
  case true =>
    rw [hz] at he
    have h0 : x = 0 := by have := of_decide_eq_true hz; omega
    subst h0
    clear hz hm hn hx
    go_enter Try.func149, Try.ntmps149
    go_wp2
    go_ret
    exact ⟨rfl, rfl⟩

theorem valid_parts {x y : Nat} (h : validD x y = true) : (soundD x y = false ∧ x = 9218868437227405312 ∧ y = 18442240474082181120) ∨ (soundD x y = true ∧ minusD x = false ∧ minusD y = false) := by
  unfold validD at h
  cases hs : soundD x y
  · rw [hs] at h
    refine Or.inl ⟨rfl, ?_⟩
    unfold emptyB at h
    simpa using h
  · by_cases he : emptyB x y = true
    · exfalso
      unfold emptyB at he
      simp at he
      obtain ⟨rfl, rfl⟩ := he
      revert hs; decide
    · rw [hs] at h
      have : emptyB x y = false := by simpa using he
      rw [this] at h
      simp at h
      exact Or.inr ⟨rfl, h⟩

set_option maxRecDepth 100000 in
set_option maxHeartbeats 800000 in
theorem readI_any (x y : Nat) (hx : W64 x) (hy : W64 y) (hv : validD x y = true) (w : World) :
    Calls Try.prog 117 #[.agg #[.float .f64 x, .float .f64 y]] w fun e w' => e = .returned (.agg #[.float .f64 x, .float .f64 y]) ∧ Below w.heap.size w w' := by
  have CS := Lib.hid (fun w => sound_any x y hx hy w)
  rcases valid_parts hv with ⟨hs, rfl, rfl⟩ | ⟨hs, m1, m2⟩
  · rw [hs] at CS
    clear hs hv hx hy
    go_enter Try.func117, Try.ntmps117
    go_wp2_with fail
    refine (CS.out _).mono ?_
    rintro e1 w1 ⟨rfl, rfl⟩
    go_wp2_with fail
    refine (empty_any _).mono ?_
    rintro e2 w2 ⟨rfl, hb⟩
    obtain ⟨hc, hf⟩ := bcell hb
    have hz : w.heap.size + 1 < w2.heap.size := by have := hb.size; simp at this; omega
    have HB : Hid (Below w.heap.size w w2) := Lib.hid (below_then (((Below.refl _ _).alloc (Nat.le_refl _) _).alloc (by simp) _) hb)
    clear hb
    go_wp2
    all_goals
      refine bodyPost_ret (v := .agg #[.float .f64 9218868437227405312, .float .f64 18442240474082181120]) (by simp [results, Try.results117, go_sem, *]) rfl ⟨rfl, ?_⟩
      repeat (first | ((with_reducible refine Below.setCell ?_ ?_ _); rotate_left; focus (first | omega | (simp; done) | (simp; omega))) | (with_reducible refine Below.drew ?_))
      exact HB.out
  · rw [hs] at CS
    have P1 := Lib.hid (fun w => plainI_any x hx m1 w)
    have P2 := Lib.hid (fun w => plainI_any y hy m2 w)
    clear hs hv hx hy m1 m2
    go_enter Try.func117, Try.ntmps117
    go_wp2_with fail
    refine (CS.out _).mono ?_
    rintro e1 w1 ⟨rfl, rfl⟩
    go_wp2_with fail
    refine region_qtail 7 (by kernel_rfl) (by kernel_rfl) ?_
    simp only [List.take_succ_cons, List.take_zero, List.drop_succ_cons, List.drop_zero]
    repeat (refine wpQuiet_step (fun K hK => ?_); go_simp; first | (refine hK _ ?_; clear hK K) | (apply Exists.intro; refine ⟨fun _ => ?_, hK _ ?_⟩; (first | (with_reducible exact qcall_same (P1.out _)) | (with_reducible exact qcall_same (P2.out _))); clear hK K))
    refine wpQuiet_nil ?_
    intro w2 hb
    obtain ⟨hc, hf⟩ := bcell hb
    have hz : w.heap.size + 1 < w2.heap.size := by have := hb.size; simp at this; omega
    have HB : Hid (Below w.heap.size w w2) := Lib.hid (below_then (((Below.refl _ _).alloc (Nat.le_refl _) _).alloc (by simp) _) hb)
    clear hb
    go_wp2
    all_goals
      refine bodyPost_ret (v := .agg #[.float .f64 x, .float .f64 y]) (by simp [results, Try.results117, go_sem, *]) rfl ⟨rfl, ?_⟩
      repeat (first | ((with_reducible refine Below.setCell ?_ ?_ _); rotate_left; focus (first | omega | (simp; done) | (simp; omega))) | (with_reducible refine Below.drew ?_))
      exact HB.out

theorem infoB1 : (Try.prog.info? 5).map (·.size) = some 1 := by kernel_rfl
theorem list16 {α : Type} {l : List α} (h : l.length = 16) : ∃ a0 a1 a2 a3 a4 a5 a6 a7 a8 a9 a10 a11 a12 a13 a14 a15, l = [a0, a1, a2, a3, a4, a5, a6, a7, a8, a9, a10, a11, a12, a13, a14, a15] := by
  match l, h with
  | [a0, a1, a2, a3, a4, a5, a6, a7, a8, a9, a10, a11, a12, a13, a14, a15], _ => exact ⟨_, _, _, _, _, _, _, _, _, _, _, _, _, _, _, _, rfl⟩

set_option maxRecDepth 100000 in
set_option maxHeartbeats 800000 in
theorem putI_any (x y : Nat) (hx : W64 x) (hy : W64 y) (hv : validD x y = true) (w : World) :
    Calls Try.prog 75 #[.agg #[.float .f64 x, .float .f64 y]] w fun e w' => NewB 16 (leK x 8 ++ leK y 8) e w w' := by
  have CR := Lib.hid (fun w => readI_any x y hx hy hv w)
  have CP := Lib.hid (fun w => put_any x y w)
  have hln := le16_length x y
  generalize (leK x 8 ++ leK y 8) = L at *
  obtain ⟨a0, a1, a2, a3, a4, a5, a6, a7, a8, a9, a10, a11, a12, a13, a14, a15, rfl⟩ := list16 hln
  rw [show bv [a0, a1, a2, a3, a4, a5, a6, a7, a8, a9, a10, a11, a12, a13, a14, a15] = [.int .u8 a0, .int .u8 a1, .int .u8 a2, .int .u8 a3, .int .u8 a4, .int .u8 a5, .int .u8 a6, .int .u8 a7, .int .u8 a8, .int .u8 a9, .int .u8 a10, .int .u8 a11, .int .u8 a12, .int .u8 a13, .int .u8 a14, .int .u8 a15] from rfl] at CP
  have HO := Lib.hid (bv_one [a0, a1, a2, a3, a4, a5, a6, a7, a8, a9, a10, a11, a12, a13, a14, a15])
  clear hv hx hy
  obtain ⟨i0, hi, hz0, hz1, hz2⟩ := info_parts infoB
  go_enter Try.func75, Try.ntmps75
  go_wp2_with (at_make; (refine wpList_make_full _ rfl _ _ 81 rfl (w.heap.size + 1) 5 i0 _ 1 Try.underlying81 hi hz0 hz1 .i64 .i64 _ _ 16 rfl rfl rfl rfl (by rw [hz2]; decide) (by unfold maxLen; decide) (by simp) ?_))
  intro w0 hown hgrow
  obtain ⟨cur, hcur, hcs⟩ : ∃ cur : List Value, w0.heap[w.heap.size + 1]? = some (.cells cur.toArray 5 (0, 0)) ∧ cur.length = 16 := by
    rcases hown.2 with ⟨h1, _⟩ | ⟨g, cp, cur, hv, hb, hg, h3, h4, h5, h6⟩
    · simp at h1
    · have e1 : g = w.heap.size + 1 ∧ cp = 16 := by injection hv with q1 q2 q3; injection q1 with q4; injection q4 with q5; exact ⟨q5.symm, q3.symm⟩
      obtain ⟨rfl, rfl⟩ := e1
      exact ⟨cur.toList, by simpa using hg, by simpa using h5⟩
  have HB0 : Hid (Below (w.heap.size + 1) (w.alloc (.cells #[.float .f64 x, .float .f64 y] 31)) w0) := Lib.hid ((Below.refl _ _).grown hgrow (by simp) (by intro k hk; cases hk))
  have hs0 : w.heap.size + 2 ≤ w0.heap.size := by have := (Array.getElem?_eq_some_iff.1 hcur).1; omega
  have k0 := cells_box (t := 31) w w0 [.float .f64 x, .float .f64 y] HB0.out 0 _ rfl
  have k1 := cells_box (t := 31) w w0 [.float .f64 x, .float .f64 y] HB0.out 1 _ rfl
  have HC := Lib.hid hcur; have HN := Lib.hid hcs
  clear hown hgrow hcur hcs
  go_wp2_with fail
  refine (CR.out _).mono ?_
  rintro e1 w1 ⟨rfl, hb1⟩
  have HB1 := Lib.hid hb1; clear hb1 k0 k1
  go_wp2_with fail
  refine (CP.out _).mono ?_
  rintro e2 w2 ⟨rfl, hb2⟩
  have HB2 := Lib.hid (HB1.out.trans (hb2.mono HB1.out.size)); clear hb2
  have HE : Hid (Below (w.heap.size + 1) (w.alloc (.cells #[.float .f64 x, .float .f64 y] 31)) w2) := Lib.hid (HB0.out.trans (HB2.out.mono (by omega)))
  have hs2 : w.heap.size + 2 ≤ w2.heap.size := Nat.le_trans hs0 HB2.out.size
  have HC2 : Hid (w2.heap[w.heap.size + 1]? = some (.cells cur.toArray 5 (0, 0))) := Lib.hid (by rw [HB2.out.block _ (by omega)]; exact HC.out)
  have HB9 : Hid (Below w.heap.size w (w2.alloc (.cells #[.int .u8 a0, .int .u8 a1, .int .u8 a2, .int .u8 a3, .int .u8 a4, .int .u8 a5, .int .u8 a6, .int .u8 a7, .int .u8 a8, .int .u8 a9, .int .u8 a10, .int .u8 a11, .int .u8 a12, .int .u8 a13, .int .u8 a14, .int .u8 a15] 189))) := Lib.hid ((((Below.refl _ _).alloc (Nat.le_refl _) _).trans (HE.out.mono (by omega))).alloc (by omega) _)
  have HC3 : Hid ((w2.alloc (.cells #[.int .u8 a0, .int .u8 a1, .int .u8 a2, .int .u8 a3, .int .u8 a4, .int .u8 a5, .int .u8 a6, .int .u8 a7, .int .u8 a8, .int .u8 a9, .int .u8 a10, .int .u8 a11, .int .u8 a12, .int .u8 a13, .int .u8 a14, .int .u8 a15] 189)).heap[w.heap.size + 1]? = some (.cells cur.toArray 5 (0, 0))) := Lib.hid ((heap_alloc_old w2 _ (by omega)).trans HC2.out)
  have HF : Hid (0 + ([.int .u8 a0, .int .u8 a1, .int .u8 a2, .int .u8 a3, .int .u8 a4, .int .u8 a5, .int .u8 a6, .int .u8 a7, .int .u8 a8, .int .u8 a9, .int .u8 a10, .int .u8 a11, .int .u8 a12, .int .u8 a13, .int .u8 a14, .int .u8 a15] : List Value).length ≤ cur.length) := Lib.hid (by rw [HN.out]; simp)
  have HO2 : Hid (∀ u ∈ ([.int .u8 a0, .int .u8 a1, .int .u8 a2, .int .u8 a3, .int .u8 a4, .int .u8 a5, .int .u8 a6, .int .u8 a7, .int .u8 a8, .int .u8 a9, .int .u8 a10, .int .u8 a11, .int .u8 a12, .int .u8 a13, .int .u8 a14, .int .u8 a15] : List Value), u.oneCell' = true) := Lib.hid HO.out
  have HQ : Hid (0 < ([.int .u8 a0, .int .u8 a1, .int .u8 a2, .int .u8 a3, .int .u8 a4, .int .u8 a5, .int .u8 a6, .int .u8 a7, .int .u8 a8, .int .u8 a9, .int .u8 a10, .int .u8 a11, .int .u8 a12, .int .u8 a13, .int .u8 a14, .int .u8 a15] : List Value).length → (some (⟨w.heap.size + 1, 0, none⟩ : Addr)) = some ⟨w.heap.size + 1, 0, none⟩ ∧ ∃ ad, (some (⟨w2.heap.size, 0, none⟩ : Addr)) = some ad ∧ ∀ j v, ([.int .u8 a0, .int .u8 a1, .int .u8 a2, .int .u8 a3, .int .u8 a4, .int .u8 a5, .int .u8 a6, .int .u8 a7, .int .u8 a8, .int .u8 a9, .int .u8 a10, .int .u8 a11, .int .u8 a12, .int .u8 a13, .int .u8 a14, .int .u8 a15] : List Value)[j]? = some v → (w2.alloc (.cells #[.int .u8 a0, .int .u8 a1, .int .u8 a2, .int .u8 a3, .int .u8 a4, .int .u8 a5, .int .u8 a6, .int .u8 a7, .int .u8 a8, .int .u8 a9, .int .u8 a10, .int .u8 a11, .int .u8 a12, .int .u8 a13, .int .u8 a14, .int .u8 a15] 189)).cell? (ad.add j) = some v) := Lib.hid (fun _ => ⟨rfl, _, rfl, new_cells w2 [.int .u8 a0, .int .u8 a1, .int .u8 a2, .int .u8 a3, .int .u8 a4, .int .u8 a5, .int .u8 a6, .int .u8 a7, .int .u8 a8, .int .u8 a9, .int .u8 a10, .int .u8 a11, .int .u8 a12, .int .u8 a13, .int .u8 a14, .int .u8 a15] 189⟩)
  have TT := fun (ops : Array Oper) (rest : List Oper) (o : Oper) (a : Act) (Q : Exit → Act → World → Prop) (hgd : o.guard = none) (d s : Operand) (ho : o.op = .call { callee := .builtin .copy, args := #[d, s], argTypes := #[81, 81] }) (hd : a.eval d = .slice (some ⟨w.heap.size + 1, 0, none⟩) 16 16) (hs : a.eval s = .slice (some ⟨w2.heap.size, 0, none⟩) 16 16) h => wpList_copy_splice (P := Try.prog) (ops := ops) (rest := rest) (o := o) (a := a) (Q := Q) hgd d s _ _ ho 5 Try.underlying81 infoB1 (some ⟨w.heap.size + 1, 0, none⟩) (some ⟨w2.heap.size, 0, none⟩) 16 16 16 16 hd hs (w.heap.size + 1) 0 cur 5 HC3.out [.int .u8 a0, .int .u8 a1, .int .u8 a2, .int .u8 a3, .int .u8 a4, .int .u8 a5, .int .u8 a6, .int .u8 a7, .int .u8 a8, .int .u8 a9, .int .u8 a10, .int .u8 a11, .int .u8 a12, .int .u8 a13, .int .u8 a14, .int .u8 a15] (show 16 = Nat.min 16 16 from by decide) HQ.out HF.out HO2.out w.heap.size w HB9.out (by omega) h
  go_wp2_with (refine TT _ _ _ _ _ rfl _ _ rfl rfl rfl ?_; intro w3 hg3 hb3)
  have H3 : Hid (OwnB w3 w.heap.size (some ⟨w.heap.size + 1, 0, none⟩) 16 16 [a0, a1, a2, a3, a4, a5, a6, a7, a8, a9, a10, a11, a12, a13, a14, a15] ∧ Below w.heap.size w w3) := Lib.hid ⟨⟨rfl, Or.inr ⟨_, 16, _, rfl, by omega, hg3.out, by omega, by unfold maxLen; omega, by simp [splice, HN.out], by
    have hd : List.drop 16 cur = [] := List.drop_of_length_le (by rw [HN.out]; exact Nat.le_refl _)
    simp [splice, bv, hd]⟩⟩, hb3⟩
  clear hg3 hb3
  go_wp2
  go_ret
  exact ⟨_, _, rfl, H3.out.1, H3.out.2⟩

end Go.Proofs.Ytamaeggkpdgaiaa
