/- The walks of the reference's numbers: Norm, Small, Word, Len. -/
import Derived.Test.YtamaeggkpdgaiaaNb
import Derived.Test.YtamaeggkpdgaiaaGc
namespace Go.Proofs.Ytamaeggkpdgaiaa
open Go.RowKit

/-- A row of words. -/
def fW (N : Nat) (i _j : Nat) : Value := .int .u32 (dig N i : Int)
theorem infoW : (Try.prog.info? 22).map (fun i => (i.zero, i.size, i.bytes)) = some (some (.int .u32 0), 1, 4) := by kernel_rfl
/-- What a call answers that makes a number. -/
def NumP (w : World) (N : Nat) (e : Ending) (w' : World) : Prop :=
  ∃ A cap, e = .returned (.slice A (wN N) cap) ∧ NumR w' w'.heap.size A (wN N) N ∧ Shape A (wN N) cap ∧ Below w.heap.size w w'
theorem numP_of_own {w w' : World} {B cap n N : Nat} {e : TypeId} {A : Option Addr} (ho : w'.ownsRow B e 1 (.slice A n cap) n (flatN n 1 (fW N))) (hn : n = wN N) (hb : Below w.heap.size w w') : NumP w N (.returned (.slice A n cap)) w' := by
  subst hn
  exact ⟨A, cap, rfl, ⟨lt_wN N, RowN.of_own ho⟩, Shape.of_own ho, hb⟩
theorem NumP.below {w0 w w' : World} {N : Nat} {e : Ending} (h : NumP w N e w') (hb : Below w0.heap.size w0 w) : NumP w0 N e w' := by
  obtain ⟨A, cap, he, h1, h2, h3⟩ := h
  exact ⟨A, cap, he, h1, h2, below_then hb h3⟩

set_option maxRecDepth 100000 in
set_option maxHeartbeats 1000000 in
theorem norm_any (A : Option Addr) (n cap N : Nat) (w : World) (hn : n ≤ 35184372088832) (h : NumR w w.heap.size A n N) :
    Calls Try.prog 154 #[.slice A n cap] w fun e w' => NumP w N e w' := by
  obtain ⟨i0, hi, hz0, hz1, hz2⟩ := info_parts infoW
  have HN := Lib.hid h; clear h
  go_enter Try.func154, Try.ntmps154
  go_wp2
  go_loop [3] (fun v => ∃ k : Nat, k ≤ n ∧ N < 4294967296 ^ k ∧ v = .int .i64 k) (fun v => (intOf v).toNat)
  case atStart => exact ⟨n, Nat.le_refl _, HN.out.1, rfl⟩
  case round =>
    obtain ⟨k, hk, hN, rfl⟩ := hrel
    have HK := Lib.hid hN; clear hN
    have hcase : (k = 0 ∧ wN N = 0) ∨ ∃ j, k = j + 1 := by
      rcases Nat.eq_zero_or_pos k with rfl | hp
      · left; have := wN_le.2 HK.out; omega
      · right; exact ⟨k - 1, by omega⟩
    by_cases hstop : k = wN N
    case neg =>
      obtain ⟨j, rfl⟩ : ∃ j, k = j + 1 := ⟨k - 1, by rcases hcase with ⟨h1, h2⟩ | ⟨j, rfl⟩ <;> omega⟩
      obtain ⟨b, off, rfl, hbB, hc⟩ := HN.out.cells (by omega) (Below.refl _ _)
      have c1 := hc j (by omega)
      have hjn : (j : Int) < (n : Int) := by omega
      have hd : ((dig N j : Int) == 0) = true := by
        have h1 := wN_le.2 HK.out
        have h2 : dig N j = 0 := dig_high (lt_wN N) (by omega)
        rw [h2]; rfl
      have HD := Lib.hid hd
      clear hc hcase hstop
      go_wp2
      go_round
      case rel => exact ⟨j, by omega, lt_of_top HK.out (by have := HD.out; simp at this; omega), by go_num⟩
      case measure => simp [intOf]
    case pos =>
      subst hstop
      have hreg : wN N = 0 ∨ ∃ j b off, wN N = j + 1 ∧ A = some ⟨b, off, none⟩ ∧ w.cell? ⟨b, off + j, none⟩ = some (.int .u32 (dig N j : Int)) ∧ ((dig N j : Int) == 0) = false := by
        rcases hcase with ⟨h1, h2⟩ | ⟨j, hj⟩
        · exact .inl h2
        · right
          obtain ⟨b, off, hA, hbB, hc⟩ := HN.out.cells (by omega) (Below.refl _ _)
          refine ⟨j, b, off, hj, hA, hc j (by omega), ?_⟩
          have h0 : N ≠ 0 := by intro h0; rw [wN_zero.2 h0] at hj; omega
          have := top_ne h0
          rw [hj, Nat.add_sub_cancel] at this
          simp; omega
      generalize hq : wN N = q at *
      have HQ := Lib.hid hq; clear hq hcase HK
      rcases hreg with rfl | ⟨j, b, off, rfl, rfl, c1, hd⟩
      · go_wp2
        go_loopw [4, 5] (fun v i wr => ∃ k : Nat, k ≤ 0 ∧ i = .int .i64 k ∧ wr.ownsRow w.heap.size 22 1 v k (flatN k 1 (fW N)) ∧ Below w.heap.size w wr) (fun _ i _ => 0 - (intOf i).toNat)
        case atStart => exact ⟨0, Nat.zero_le _, rfl, ⟨rfl, Or.inl ⟨rfl, rfl⟩⟩, Below.refl _ _⟩
        case round =>
          obtain ⟨k, hk, rfl, hown, hbel⟩ := hrel
          have HO := Lib.hid hown; have HBel := Lib.hid hbel; clear hown
          rcases Nat.lt_or_ge k (0) with hlt | hge
          · skip
            exact absurd hlt (by omega)
          · have hkq : k = 0 := by omega
            obtain ⟨A', cap', rfl⟩ := own_form HO.out
            clear hbel
            subst hkq
            go_wp2
            go_ret
            exact numP_of_own HO.out HQ.out.symm HBel.out
      · go_wp2
        go_loopw [4, 5] (fun v i wr => ∃ k : Nat, k ≤ j + 1 ∧ i = .int .i64 k ∧ wr.ownsRow w.heap.size 22 1 v k (flatN k 1 (fW N)) ∧ Below w.heap.size w wr) (fun _ i _ => j + 1 - (intOf i).toNat)
        case atStart => exact ⟨0, Nat.zero_le _, rfl, ⟨rfl, Or.inl ⟨rfl, rfl⟩⟩, Below.refl _ _⟩
        case round =>
          obtain ⟨k, hk, rfl, hown, hbel⟩ := hrel
          have HO := Lib.hid hown; have HBel := Lib.hid hbel; clear hown
          rcases Nat.lt_or_ge k (j + 1) with hlt | hge
          · skip
            obtain ⟨b', off', eA, hbB, hc⟩ := HN.out.cells (by omega) hbel
            cases eA
            have c1 := hc k (by omega)
            have hkn : (k : Int) < (n : Int) := by omega
            have hsz := hbel.size
            clear hc hbel
            go_wp2_with (at_builtin; (refine wpList_append_own _ rfl _ _ 106 rfl w.heap.size 22 i0 _ 1 4 Try.underlying106 hi hz0 hz1 hz2 rfl (by decide) _ k _ rfl (HO.out.alloc _) ⟨wr.heap.size, 0, none⟩ 1 1 [.int .u32 (dig N k : Int)] rfl rfl ?c1 ?c2 ?c3 ?c4 ?c5 ?_))
            case c1 => exact new_cells wr [.int .u32 (dig N k : Int)] _
            case c2 => intro u hu; simp at hu; subst hu; rfl
            case c3 => unfold maxLen; omega
            case c4 => omega
            case c5 => simp; omega
            intro v' w2 hown2 hgrow _
            have hrel2 : Hid (w2.ownsRow w.heap.size 22 1 v' (k + 1) (flatN (k + 1) 1 (fW N)) ∧ Below w.heap.size w w2) := Lib.hid ⟨by rw [flatN_succ]; exact hown2, (HBel.out.alloc (by omega) _).grown hgrow (by simp; omega) fun g hg => own_block HO.out hg⟩
            clear hown2 hgrow hsz
            go_wp2
            go_roundw
            case rel => exact ⟨k + 1, by omega, by go_num, hrel2.out.1, hrel2.out.2⟩
            case measure => simp [intOf]; omega
          · have hkq : k = j + 1 := by omega
            obtain ⟨A', cap', rfl⟩ := own_form HO.out
            clear hbel
            subst hkq
            go_wp2
            go_ret
            exact numP_of_own HO.out HQ.out.symm HBel.out

end Go.Proofs.Ytamaeggkpdgaiaa
