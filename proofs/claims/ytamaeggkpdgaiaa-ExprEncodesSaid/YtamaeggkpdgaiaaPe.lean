/- ExprEncodes: the law's walk lifted to the given statement: for every input the call returns true, and each argument reads as it did. -/
import Derived.Test.YtamaeggkpdgaiaaRows
import Derived.Test.YtamaeggkpdgaiaaOa
import Derived.Test.YtamaeggkpdgaiaaEo
namespace Go.Proofs.Ytamaeggkpdgaiaa.pExprEncodes
open Go.ChangeShapes Go.WideShapes Go.ChangeAt Go.RowKit Go.Joins

theorem own : ownKnob Try.prog.godebug = none := by kernel_rfl
theorem laidOut : laidOutB Try.prog = true := by kernel_rfl

set_option maxRecDepth 100000 in
set_option maxHeartbeats 1000000 in
theorem lifted (os : Os) (started : os.Started) (H : Type) (enc : TypeId × Value → H) :
    ReturnsInHanded {} Try.checked os 8 .any (Rows.exprEncodesSpec.pre6 enc Try.prog Try.f8 Rows.exprEncodesRow.domain false) (Rows.exprEncodesSpec.post enc Try.prog Try.f8 false true false false) := by
  refine returnsInHanded_of_change_sized (C := Try.checked) own started (by kernel_rfl) Try.func8
    (ChangeSpec.witness6 (enc := enc) (C := Try.checked) false ⟨#[], #[.agg #[.int .i64 0, .slice none 0 0, .slice none 0 0]], []⟩ 8 (by kernel_rfl) (by kernel_rfl) (by kernel_rfl) (by kernel_rfl)) ?_
  intro W base args ds gs before hval0 hW hcnd hsz0 _
  have hval : ∀ (j : Nat) t v, Try.f8.params[j]? = some t → args[j]? = some v → Value.okWide Try.prog W .any base t v := hval0
  have hsz : (DataW.weightsEach Try.prog (Try.f8.params.toList ++ Rows.exprEncodesSpec.plain.varTypes Try.prog) (ds ++ gs)).all (· ≤ reachBytes) = true := hsz0
  have hW' := hW
  obtain ⟨p, q, hA0, hV, rfl, hfz, hnd⟩ := hW
  have hA : DataW.TrodAll enc Try.prog W 0 (fun _ => true) true Try.f8.params.toList args.toList ds p := hA0
  rw [Try.params8] at hA hval hsz
  obtain ⟨v0, vs0, d0, ds0, p0, q0, hargs, rfl, rfl, h0, r0⟩ := trodAll_cons hA
  obtain ⟨rfl, rfl, rfl⟩ := trodAll_nil r0
  obtain rfl : args = #[v0] := by cases args; simp_all
  obtain ⟨rfl, rfl⟩ := trodVars_none hV
  have hszA : ∀ x ∈ DataW.weightsEach Try.prog [60] [d0], x ≤ reachBytes := by
    have h := (show (DataW.weightsEach Try.prog [60] [d0]).all (· ≤ reachBytes) = true from hsz)
    intro x hx; have := List.all_eq_true.1 h x hx; simpa using this
  have hszp0 : ∀ x ∈ DataW.weights Try.prog 60 d0, x ≤ reachBytes := fun x hx => hszA x (by simp only [DataW.weightsEach, List.mem_append]; first | exact .inl hx)
  have k0 := h0
  have lt0 : ∀ x ∈ p0, x.block < W.heap.size := by obtain ⟨m, hm⟩ := k0; exact DataW.trod_lt m _ _ _ hm
  clear hsz hsz0 hszA
  obtain ⟨b00, b01, b02, y00, y01, y02, m0, rfl, rfl, rfl, g00, g01, g02⟩ := open_agg3 Try.underlying60 (by kernel_rfl) (by kernel_rfl) (hval 0 60 v0 rfl rfl) h0
  obtain ⟨vars0, e00, e0x, w00⟩ := DataW.trod_int Try.underlying3 g00
  simp at e00; subst e00
  obtain ⟨A0, n0, cap0, F0, e01, nc0, cm0, sh0, wf0, row0, ws0⟩ := open_table Try.underlying57 Try.underlying27 (by kernel_rfl) (by kernel_rfl) (c := 2) rfl (by omega) (k := .u64) (all2 Try.underlying25 Try.underlying25) g01
  obtain ⟨B0, l0, cap'0, G0, e02, nl0, cm'0, sh'0, wf'0, row'0, ws'0⟩ := open_table Try.underlying58 Try.underlying120 (by kernel_rfl) (by kernel_rfl) (c := 5) rfl (by omega) (k := .i64) (all5 Try.underlying3 Try.underlying3 Try.underlying3 Try.underlying3 Try.underlying3) g02
  simp at e01 e02; subst e01 e02
  have hw0 := hszp0
  rw [show DataW.weights Try.prog 60 (.agg [y00.1, y01.1, y02.1]) = DataW.weights Try.prog 3 y00.1 ++ (DataW.weights Try.prog 57 y01.1 ++ (DataW.weights Try.prog 58 y02.1 ++ [])) from by simp only [DataW.weights, Try.underlying60]; rfl] at hw0
  have hn0 := weights_slice (n := n0) Try.underlying57 (b := 16) (by kernel_rfl) ws0 (fun x hx => hw0 x (by simp only [List.mem_append]; exact .inr (.inl hx)))
  have hl0 := weights_slice (n := l0) Try.underlying58 (b := 40) (by kernel_rfl) ws'0 (fun x hx => hw0 x (by simp only [List.mem_append]; exact .inr (.inr (.inl hx))))
  have bd0 := bounds_i64 w00
  clear hA0 hval0
  refine (exprEncodes_any vars0 A0 B0 n0 cap0 l0 cap'0 (fun i => ((F0 i 0).toNat, (F0 i 1).toNat)) G0 W (words2 wf0) hn0 hl0 (rowU wf0 row0) row'0).mono fun e W' ⟨he, bel⟩ => ?_
  subst he
  exact ⟨_, rfl, _, _, _, [], _, [], hW', trodAll_mk1 (shut_bool Try.underlying4 _), (trodAll_cons_mk (Below.trod laidOut (by kernel_rfl) (of_decide_eq_true (by kernel_rfl)) k0 bel lt0) trodAll_mk0), rfl, bel.frame _, fun h => by cases h⟩

theorem over : Rows.exprEncodesRow.holds Try.pinned (OpenSpec.ofChange Rows.exprEncodesSpec) :=
  OpenClaim.holds_of_wide 8 Try.f8 rfl rfl rfl rfl rfl rfl rfl ⟨rfl, rfl, rfl, rfl, rfl⟩ rfl rfl rfl rfl rfl (by kernel_rfl) Try.func8 (by kernel_rfl)
    (of_decide_eq_true (by kernel_rfl)) (by unfold Func.isWrapper; first | (rw [if_pos (by decide +kernel)]; kernel_rfl) | (rw [if_neg (by decide +kernel)]; exact ⟨rfl, rfl⟩))
    (fun os started H enc _ => lifted os started H enc)

/-- The statement. -/
theorem proved : Rows.ExprEncodesSaid := over
#print axioms proved
end Go.Proofs.Ytamaeggkpdgaiaa.pExprEncodes
