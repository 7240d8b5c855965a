/- The walks of the small leaf functions over floats. -/
import Derived.Test.YtamaeggkpdgaiaaProg
import Derived.WalkKit
import Derived.WalkSpells
import Derived.WalkLawsBesides
import Derived.Laws.Externs
import Derived.Test.YtamaeggkpdgaiaaFa
import Derived.Lib.Hide
namespace Go.Proofs.Ytamaeggkpdgaiaa
open Go.RowKit

@[go_sem] theorem run_f64bits (x : Nat) (w : World) : (callFunc 42 #[.float .f64 x]).run Try.prog w = .ok (.value (.int .u64 x)) w := by
  rw [run_callFunc_extern Try.func42 (by kernel_rfl) (by kernel_rfl) (by kernel_rfl) (e := Extern.MathFloatBits.float64bits) (by kernel_rfl)]
  rfl
@[go_sem] theorem run_f64frombits (x : Int) (w : World) : (callFunc 52 #[.int .u64 x]).run Try.prog w = .ok (.value (.float .f64 x.toNat)) w := by
  rw [run_callFunc_extern Try.func52 (by kernel_rfl) (by kernel_rfl) (by kernel_rfl) (e := Extern.MathFloatBits.float64frombits) (by kernel_rfl)]
  rfl
@[go_sem] theorem run_f32bits (x : Nat) (w : World) : (callFunc 46 #[.float .f32 x]).run Try.prog w = .ok (.value (.int .u32 x)) w := by
  rw [run_callFunc_extern Try.func46 (by kernel_rfl) (by kernel_rfl) (by kernel_rfl) (e := Extern.MathFloatBits.float32bits) (by kernel_rfl)]
  rfl
@[go_sem] theorem run_f32frombits (x : Int) (w : World) : (callFunc 43 #[.int .u32 x]).run Try.prog w = .ok (.value (.float .f32 x.toNat)) w := by
  rw [run_callFunc_extern Try.func43 (by kernel_rfl) (by kernel_rfl) (by kernel_rfl) (e := Extern.MathFloatBits.float32frombits) (by kernel_rfl)]
  rfl

set_option maxRecDepth 100000 in
set_option maxHeartbeats 400000 in
theorem inf_pos (n : Int) (h : 0 ≤ n) (w : World) :
    Calls Try.prog 89 #[.int .i64 n] w fun e w' => e = .returned (.float .f64 9218868437227405312) ∧ w = w' := by
  go_enter Try.func89, Try.ntmps89
  go_wp2
  go_ret
  exact ⟨rfl, rfl⟩

set_option maxRecDepth 100000 in
set_option maxHeartbeats 400000 in
theorem inf_neg (n : Int) (h : n < 0) (w : World) :
    Calls Try.prog 89 #[.int .i64 n] w fun e w' => e = .returned (.float .f64 18442240474082181120) ∧ w = w' := by
  go_enter Try.func89, Try.ntmps89
  go_wp2
  go_ret
  exact ⟨rfl, rfl⟩


set_option maxRecDepth 100000 in
set_option maxHeartbeats 400000 in
theorem isNaN_any (x : Nat) (hx : W64 x) (w : World) :
    Calls Try.prog 97 #[.int .u64 x] w fun e w' => e = .returned (.bool (nanD x)) ∧ w = w' := by
  go_enter Try.func97, Try.ntmps97
  go_wp2
  go_ret
  exact ⟨ret_bool (by rw [andNot63 hx]; unfold nanD; exact decide_eq_decide.2 (by omega)), rfl⟩

set_option maxRecDepth 100000 in
set_option maxHeartbeats 400000 in
theorem plainD_any (x : Nat) (hx : W64 x) (w : World) :
    Calls Try.prog 86 #[.int .u64 x] w fun e w' => e = .returned (.int .u64 (plainD x)) ∧ w = w' := by
  cases hn : nanD x
  all_goals
    have H := Lib.hid hn
    clear hn
    by_cases h : (x : Int) = 9223372036854775808
    all_goals
      go_enter Try.func86, Try.ntmps86
      go_wp2_with (go_at_call 97; refine (isNaN_any _ hx _).mono ?_; rintro e w' ⟨rfl, rfl⟩; rw [H.out])
      go_ret
      exact ⟨ret_int (by have := H.out; unfold plainD; split <;> first | omega | simp_all), rfl⟩

set_option maxRecDepth 100000 in
set_option maxHeartbeats 400000 in
theorem keyD_any (x : Nat) (hx : W64 x) (w : World) :
    Calls Try.prog 98 #[.int .u64 x] w fun e w' => e = .returned (.int .u64 (keyD x)) ∧ w = w' := by
  have hp := plainD_lt hx
  have hsg : IntKind.u64.signed = false := rfl
  cases h2 : decide ((9223372036854775808 : Int) ≤ (plainD x : Int))
  all_goals
    go_enter Try.func98, Try.ntmps98
    go_wp2_with (go_at_call 86; refine (plainD_any _ hx _).mono ?_; rintro e w' ⟨rfl, rfl⟩)
    go_ret
  · have h3 := of_decide_eq_false h2
    exact ⟨ret_int (by rw [or63 (by omega)]; unfold keyD; rw [if_neg (by omega)]), rfl⟩
  · have h3 := of_decide_eq_true h2
    exact ⟨ret_int (by rw [not64 hp]; unfold keyD; rw [if_pos (by omega)]), rfl⟩

end Go.Proofs.Ytamaeggkpdgaiaa
