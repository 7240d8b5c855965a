/- ShortMeets: the law's walk lifted to the given statement: for every input the call returns true, and each argument reads as it did. -/
import Derived.Test.YtamaeggkpdgaiaaRows
import Derived.ProofKit
import Derived.OpenShut
import Derived.Lib.SmallJoins
import Derived.Test.YtamaeggkpdgaiaaHr
namespace Go.Proofs.Ytamaeggkpdgaiaa.pShortMeets
open Go.ChangeShapes Go.WideShapes Go.ChangeAt Go.RowKit Go.Joins

theorem own : ownKnob Try.prog.godebug = none := by kernel_rfl
theorem laidOut : laidOutB Try.prog = true := by kernel_rfl

set_option maxRecDepth 100000 in
theorem lifted (os : Os) (started : os.Started) (H : Type) (enc : TypeId × Value → H) :
    ReturnsInHanded {} Try.checked os 4 .any (Rows.shortMeetsSpec.pre6 enc Try.prog Try.f4 Rows.shortMeetsRow.domain false) (Rows.shortMeetsSpec.post enc Try.prog Try.f4 false true false false) := by
  refine returnsInHanded_of_change (C := Try.checked) own started (by kernel_rfl) Try.func4
    (ChangeSpec.witness6 (enc := enc) (C := Try.checked) false ⟨#[], #[.agg #[.int .u32 0, .int .u32 0], .agg #[.int .u32 0, .int .u32 0], .agg #[.int .u64 0, .int .u64 0], .agg #[.int .u64 0, .int .u64 0]], []⟩ 8 (by kernel_rfl) (by kernel_rfl) (by kernel_rfl) (by kernel_rfl)) ?_
  intro W base args ds gs before hval0 hW hcnd _
  have hval : ∀ (j : Nat) t v, Try.f4.params[j]? = some t → args[j]? = some v → Value.okWide Try.prog W .any base t v := hval0
  have hW' := hW
  obtain ⟨p, q, hA0, hV, rfl, hfz, hnd⟩ := hW
  have hA : DataW.TrodAll enc Try.prog W 0 (fun _ => true) true Try.f4.params.toList args.toList ds p := hA0
  rw [Try.params4] at hA hval
  obtain ⟨v0, vs0, d0, ds0, p0, q0, hargs, rfl, rfl, h0, r0⟩ := trodAll_cons hA
  obtain ⟨v1, vs1, d1, ds1, p1, q1, rfl, rfl, rfl, h1, r1⟩ := trodAll_cons r0
  obtain ⟨v2, vs2, d2, ds2, p2, q2, rfl, rfl, rfl, h2, r2⟩ := trodAll_cons r1
  obtain ⟨v3, vs3, d3, ds3, p3, q3, rfl, rfl, rfl, h3, r3⟩ := trodAll_cons r2
  obtain ⟨rfl, rfl, rfl⟩ := trodAll_nil r3
  obtain rfl : args = #[v0, v1, v2, v3] := by cases args; simp_all
  obtain ⟨rfl, rfl⟩ := trodVars_none hV
  have k0 := h0
  have lt0 : ∀ x ∈ p0, x.block < W.heap.size := by obtain ⟨m, hm⟩ := k0; exact DataW.trod_lt m _ _ _ hm
  have k1 := h1
  have lt1 : ∀ x ∈ p1, x.block < W.heap.size := by obtain ⟨m, hm⟩ := k1; exact DataW.trod_lt m _ _ _ hm
  have k2 := h2
  have lt2 : ∀ x ∈ p2, x.block < W.heap.size := by obtain ⟨m, hm⟩ := k2; exact DataW.trod_lt m _ _ _ hm
  have k3 := h3
  have lt3 : ∀ x ∈ p3, x.block < W.heap.size := by obtain ⟨m, hm⟩ := k3; exact DataW.trod_lt m _ _ _ hm
  obtain ⟨b00, b01, y00, y01, m0, rfl, rfl, rfl, g00, g01⟩ := open_agg2 Try.underlying24 (by kernel_rfl) (by kernel_rfl) (hval 0 24 v0 rfl rfl) h0
  obtain ⟨x0, e00, e0x, w00⟩ := DataW.trod_int Try.underlying22 g00
  obtain ⟨z0, e01, e0z, w01⟩ := DataW.trod_int Try.underlying22 g01
  simp at e00 e01; subst e00 e01
  obtain ⟨X0, rfl, hX0⟩ := wf_w32 w00
  obtain ⟨Z0, rfl, hZ0⟩ := wf_w32 w01
  obtain ⟨b10, b11, y10, y11, m1, rfl, rfl, rfl, g10, g11⟩ := open_agg2 Try.underlying24 (by kernel_rfl) (by kernel_rfl) (hval 1 24 v1 rfl rfl) h1
  obtain ⟨x1, e10, e1x, w10⟩ := DataW.trod_int Try.underlying22 g10
  obtain ⟨z1, e11, e1z, w11⟩ := DataW.trod_int Try.underlying22 g11
  simp at e10 e11; subst e10 e11
  obtain ⟨X1, rfl, hX1⟩ := wf_w32 w10
  obtain ⟨Z1, rfl, hZ1⟩ := wf_w32 w11
  obtain ⟨b20, b21, y20, y21, m2, rfl, rfl, rfl, g20, g21⟩ := open_agg2 Try.underlying27 (by kernel_rfl) (by kernel_rfl) (hval 2 27 v2 rfl rfl) h2
  obtain ⟨x2, e20, e2x, w20⟩ := DataW.trod_int Try.underlying25 g20
  obtain ⟨z2, e21, e2z, w21⟩ := DataW.trod_int Try.underlying25 g21
  simp at e20 e21; subst e20 e21
  obtain ⟨X2, rfl, hX2⟩ := wf_w64 w20
  obtain ⟨Z2, rfl, hZ2⟩ := wf_w64 w21
  obtain ⟨b30, b31, y30, y31, m3, rfl, rfl, rfl, g30, g31⟩ := open_agg2 Try.underlying27 (by kernel_rfl) (by kernel_rfl) (hval 3 27 v3 rfl rfl) h3
  obtain ⟨x3, e30, e3x, w30⟩ := DataW.trod_int Try.underlying25 g30
  obtain ⟨z3, e31, e3z, w31⟩ := DataW.trod_int Try.underlying25 g31
  simp at e30 e31; subst e30 e31
  obtain ⟨X3, rfl, hX3⟩ := wf_w64 w30
  obtain ⟨Z3, rfl, hZ3⟩ := wf_w64 w31
  clear hA0 hval0
  refine (shortMeets_any X0 Z0 X1 Z1 X2 Z2 X3 Z3 hX0 hZ0 hX1 hZ1 hX2 hZ2 hX3 hZ3 W).mono fun e W' ⟨he, bel⟩ => ?_
  subst he
  exact ⟨_, rfl, _, _, _, [], _, [], hW', trodAll_mk1 (shut_bool Try.underlying4 _), (trodAll_cons_mk (Below.trod laidOut (by kernel_rfl) (of_decide_eq_true (by kernel_rfl)) k0 bel lt0) (trodAll_cons_mk (Below.trod laidOut (by kernel_rfl) (of_decide_eq_true (by kernel_rfl)) k1 bel lt1) (trodAll_cons_mk (Below.trod laidOut (by kernel_rfl) (of_decide_eq_true (by kernel_rfl)) k2 bel lt2) (trodAll_cons_mk (Below.trod laidOut (by kernel_rfl) (of_decide_eq_true (by kernel_rfl)) k3 bel lt3) trodAll_mk0)))), rfl, bel.frame _, fun h => by cases h⟩

theorem over : Rows.shortMeetsRow.holds Try.pinned (OpenSpec.ofChange Rows.shortMeetsSpec) :=
  OpenClaim.holds_of_wide 4 Try.f4 rfl rfl rfl rfl rfl rfl rfl ⟨rfl, rfl, rfl, rfl, rfl⟩ rfl rfl rfl rfl rfl (by kernel_rfl) Try.func4 (by kernel_rfl)
    (of_decide_eq_true (by kernel_rfl)) (by unfold Func.isWrapper; first | (rw [if_pos (by decide +kernel)]; kernel_rfl) | (rw [if_neg (by decide +kernel)]; exact ⟨rfl, rfl⟩))
    (fun os started H enc _ => lifted os started H enc)

/-- The statement. -/
theorem proved : Rows.ShortMeetsSaid := over
#print axioms proved
end Go.Proofs.Ytamaeggkpdgaiaa.pShortMeets
