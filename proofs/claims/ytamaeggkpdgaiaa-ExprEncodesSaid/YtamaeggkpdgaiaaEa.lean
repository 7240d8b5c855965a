/- Bytes of numbers: the walks of both packages' two, of vergeref16.eight and Sixteen. -/
import Derived.Test.YtamaeggkpdgaiaaWw
import Derived.Laws.AppendOwnNone
namespace Go.Proofs.Ytamaeggkpdgaiaa
open Go.RowKit

/-- Bytes as values. -/
def bv (l : List Int) : List Value := l.map fun b => .int .u8 b
@[simp] theorem bv_length (l : List Int) : (bv l).length = l.length := by unfold bv; simp
theorem bv_append (l m : List Int) : bv (l ++ m) = bv l ++ bv m := by unfold bv; simp
theorem bv_one (l : List Int) : ∀ u ∈ bv l, u.oneCell' = true := by
  intro u hu; unfold bv at hu; obtain ⟨b, _, rfl⟩ := List.mem_map.1 hu; rfl
/-- The slice '.slice A n cap' is one of one's own, and its bytes are l. -/
def OwnB (w : World) (base : Nat) (A : Option Addr) (n cap : Nat) (l : List Int) : Prop := w.ownsRow base 5 1 (.slice A n cap) n (bv l)
theorem OwnB.len {w : World} {base : Nat} {A : Option Addr} {n cap : Nat} {l : List Int} (h : OwnB w base A n cap l) : l.length = n := by have := h.1; simpa using this
theorem OwnB.below {w w' : World} {base : Nat} {A : Option Addr} {n cap : Nat} {l : List Int} (h : OwnB w base A n cap l) (hb : Below w.heap.size w w') : OwnB w' base A n cap l := own_below h hb
theorem OwnB.mono {w : World} {base base' : Nat} {A : Option Addr} {n cap : Nat} {l : List Int} (h : OwnB w base A n cap l) (hb : base' ≤ base) : OwnB w base' A n cap l := own_mono h hb
theorem OwnB.alloc {w : World} {base : Nat} {A : Option Addr} {n cap : Nat} {l : List Int} (h : OwnB w base A n cap l) (o : Obj) : OwnB (w.alloc o) base A n cap l := World.ownsRow.alloc h o
theorem OwnB.at' {w : World} {base : Nat} {A : Option Addr} {n cap : Nat} {l : List Int} (h : OwnB w base A n cap l) (hn : 0 < n) : ∃ g, A = some ⟨g, 0, none⟩ ∧ base ≤ g ∧ g < w.heap.size ∧ ∀ j u, (bv l)[j]? = some u → w.cell? ((⟨g, 0, none⟩ : Addr).add j) = some u := by
  rcases h.2 with ⟨_, h0⟩ | ⟨g, cp, cur, hv, hb, hg, hrest⟩
  · omega
  · have hA : A = some ⟨g, 0, none⟩ := by injection hv
    subst hA
    exact ⟨g, rfl, hb, (Array.getElem?_eq_some_iff.1 hg).1, World.ownsRow.cells h rfl⟩
theorem own_none (w : World) (base : Nat) : OwnB w base none 0 0 [] := World.ownsRow_nil _ _ _ _
theorem own_lit (w : World) (base : Nat) (l : List Int) (hb : base ≤ w.heap.size) (hl : l.length ≤ 1000000) : OwnB (w.alloc (.cells (bv l).toArray 5)) base (some ⟨w.heap.size, 0, none⟩) l.length l.length l :=
  ⟨by simp, Or.inr ⟨_, l.length, _, rfl, hb, heap_alloc_new _ _, Nat.le_refl _, by unfold maxLen; omega, by simp, by rw [Nat.mul_one]; exact List.take_of_length_le (by simp)⟩⟩
/-- A function's own bytes, new. -/
def NewB (n : Nat) (l : List Int) (e : Ending) (w w' : World) : Prop := ∃ A cap, e = .returned (.slice A n cap) ∧ OwnB w' w.heap.size A n cap l ∧ Below w.heap.size w w'

theorem infoB : (Try.prog.info? 5).map (fun i => (i.zero, i.size, i.bytes)) = some (some (.int .u8 0), 1, 1) := by kernel_rfl
/-- append of one's own bytes to one's own bytes. -/
theorem app8 {ops : Array Oper} {rest : List Oper} {o : Oper} {a : Act} {Q : Exit → Act → World → Prop} {w : World} (hgd : o.guard = none) (s x : Operand) (ho : o.op = .call { callee := .builtin .append, args := #[s, x], argTypes := #[81, 81] })
    (base base2 : Nat) (A : Option Addr) (n cap : Nat) (l : List Int) (hs : a.eval s = .slice A n cap) (hown : OwnB w base A n cap l)
    (B : Option Addr) (m c : Nat) (news : List Int) (hx : a.eval x = .slice B m c) (hsrc : OwnB w base2 B m c news) (hm : 0 < m)
    (hlen : n + m ≤ 140737488355328) (hbase : base ≤ w.heap.size)
    (h : ∀ A' cap' w', OwnB w' base A' (n + m) cap' (l ++ news) → w.grownBy w' (Value.slice A n cap).ownBlock → Below base w w' → wpList Try.prog ops Q rest (a.put o.dst (.slice A' (n + m) cap')) w') : wpList Try.prog ops Q (o :: rest) a w := by
  obtain ⟨i0, hi, hz0, hz1, hz2⟩ := info_parts infoB
  obtain ⟨g, rfl, hg1, hg2, hc⟩ := hsrc.at' hm
  refine wpList_append_own w hgd s x 81 ho base 5 i0 _ 1 1 Try.underlying81 hi hz0 hz1 hz2 rfl (by decide) _ n _ hs hown ⟨g, 0, none⟩ m c (bv news) hx (by rw [bv_length, hsrc.len]; omega) hc (bv_one _) (by unfold maxLen; omega) (by omega) hbase ?_
  intro v' w' h1 h2 h3
  obtain ⟨A', cap', rfl⟩ := own_form h1
  have h4 : Below base w w' := (Below.refl base w).grown h2 hbase (fun k hk => own_block hown hk)
  refine h A' cap' w' ?_ h2 h4
  unfold OwnB
  rw [bv_append]
  exact h1

/-- The two bytes of a number. -/
def two (v : Int) : List Int := [v % 256, v / 256 % 256]
theorem own_two (w : World) (v : Int) : OwnB (w.alloc (.cells #[.int .u8 (v % 256), .int .u8 (v / 256 % 256)] 5)) w.heap.size (some ⟨w.heap.size, 0, none⟩) 2 2 (two v) := own_lit w _ (two v) (Nat.le_refl _) (by simp [two])
theorem and255 (v : Int) : bits .and .i64 v 255 = v % 256 := by
  have h2 : (BitVec.ofInt 64 (255 : Int)).toNat = 255 := by decide
  show IntKind.i64.wrap (((BitVec.ofInt 64 v &&& BitVec.ofInt 64 255).toNat : Nat) : Int) = _
  rw [BitVec.toNat_and, h2, BitVec.toNat_ofInt, show (255 : Nat) = 2 ^ 8 - 1 from rfl, Nat.and_two_pow_sub_one_eq_mod]
  rw [IntWalk.i64_in _ ⟨by omega, by omega⟩]
  omega
theorem mod_mod256 (v : Int) : v % 256 % 256 = v % 256 := by omega

set_option maxRecDepth 100000 in
set_option maxHeartbeats 400000 in
theorem two_any (v : Int) (w : World) :
    Calls Try.prog 74 #[.int .i64 v] w fun e w' => NewB 2 (two v) e w w' := by
  go_enter Try.func74, Try.ntmps74
  go_wp2
  go_ret
  exact ⟨_, _, rfl, own_two w v, (Below.refl _ _).alloc (Nat.le_refl _) _⟩

set_option maxRecDepth 100000 in
set_option maxHeartbeats 400000 in
theorem two16_any (v : Int) (w : World) :
    Calls Try.prog 77 #[.int .i64 v] w fun e w' => NewB 2 (two v) e w w' := by
  have h1 := and255 v
  have h2 := and255 (v / 256)
  have h3 := mod_mod256 v
  have h4 := mod_mod256 (v / 256)
  go_enter Try.func77, Try.ntmps77
  go_wp2
  go_ret
  exact ⟨_, _, rfl, own_two w v, (Below.refl _ _).alloc (Nat.le_refl _) _⟩

/-- The first k bytes of a word, the lowest first. -/
def leK (x : Nat) (k : Nat) : List Int := (List.range k).map fun i => ((x / 256 ^ i % 256 : Nat) : Int)
theorem leK_succ (x k : Nat) : leK x (k + 1) = leK x k ++ [((x / 256 ^ k % 256 : Nat) : Int)] := by unfold leK; rw [List.range_succ, List.map_append]; rfl

theorem and255u {x k : Nat} (hx : W64 x) : bits .and .u64 ((x : Int) / 2 ^ (8 * k)) 255 = ((x / 256 ^ k % 256 : Nat) : Int) := by
  have e : (x : Int) / 2 ^ (8 * k) = ((x / 256 ^ k : Nat) : Int) := by
    rw [show (256 : Nat) ^ k = 2 ^ (8 * k) from by rw [Nat.pow_mul]]; simp
  have hlt : x / 256 ^ k < 18446744073709551616 := Nat.lt_of_le_of_lt (Nat.div_le_self _ _) hx
  have h := u64_and_nat (x / 256 ^ k) 255 hlt (by decide)
  have e2 : ((255 : Nat) : Int) = 255 := rfl
  rw [e2] at h
  rw [e, h, show (255 : Nat) = 2 ^ 8 - 1 from rfl, Nat.and_two_pow_sub_one_eq_mod]

set_option maxRecDepth 100000 in
set_option maxHeartbeats 400000 in
theorem eight_any (x : Nat) (hx : W64 x) (w : World) :
    Calls Try.prog 118 #[.int .u64 (x : Int)] w fun e w' => NewB 8 (leK x 8) e w w' := by
  go_enter Try.func118, Try.ntmps118
  go_wp2
  go_loopw [3, 4] (fun lv iv wr => ∃ (k : Nat) (A : Option Addr) (cap : Nat), k ≤ 8 ∧ lv = .slice A k cap ∧ iv = .int .i64 (k : Int) ∧ Hid (OwnB wr w.heap.size A k cap (leK x k) ∧ Below w.heap.size w wr)) (fun _ iv _ => 8 - (intOf iv).toNat)
  case atStart => exact ⟨0, none, 0, by omega, rfl, rfl, Lib.hid ⟨own_none _ _, Below.refl _ _⟩⟩
  case round =>
    obtain ⟨k, A, cap, hk, rfl, rfl, H⟩ := hrel
    by_cases hlt : k < 8
    · have hlt' : (k : Int) < 8 := by omega
      obtain ⟨z, hz⟩ : ∃ z : Int, ((x / 256 ^ k % 256 : Nat) : Int) = z := ⟨_, rfl⟩
      have hb : bits .and .u64 ((x : Int) / 2 ^ (8 * k)) 255 % 256 = z := by rw [← hz, and255u hx]; omega
      have HS : Hid (leK x (k + 1) = leK x k ++ [z]) := Lib.hid (by rw [leK_succ, hz])
      clear hz
      go_wp2_with (at_builtin; (refine app8 rfl _ _ rfl w.heap.size w.heap.size A k cap (leK x k) rfl (H.out.1.alloc _) (some ⟨wr.heap.size, 0, none⟩) 1 1 [z] rfl (own_lit wr _ [z] H.out.2.size (by simp)) (by omega) (by omega) (by have := H.out.2.size; simp; omega) ?_); intro A' cap' w' hown2 _ hbel2)
      have H2 : Hid (OwnB w' w.heap.size A' (k + 1) cap' (leK x (k + 1)) ∧ Below w.heap.size w w') := Lib.hid ⟨by rw [HS.out]; exact hown2, (H.out.2.alloc H.out.2.size _).trans hbel2⟩
      clear hown2 hbel2
      go_wp2
      go_roundw
      case rel => exact ⟨k + 1, A', cap', by omega, rfl, by go_num, H2⟩
      case measure => simp [intOf]; omega
    · have : k = 8 := by omega
      subst this
      go_wp2
      go_ret
      exact ⟨A, cap, rfl, H.out.1, H.out.2⟩

theorem cells_box {t : TypeId} (w w' : World) (l : List Value) (h : Below (w.heap.size + 1) (w.alloc (.cells l.toArray t)) w') (o : Nat) (v : Value) (ho : l[o]? = some v) : w'.cell? ⟨w.heap.size, o, none⟩ = some v := by
  rw [h.cell (p := ⟨w.heap.size, o, none⟩) (by simp)]
  unfold World.cell? World.alloc
  simp [ho]

set_option maxRecDepth 100000 in
set_option maxHeartbeats 400000 in
theorem sixteen_any (x y : Nat) (hx : W64 x) (hy : W64 y) (w : World) :
    Calls Try.prog 78 #[.agg #[.int .u64 (x : Int), .int .u64 (y : Int)]] w fun e w' => NewB 16 (leK x 8 ++ leK y 8) e w w' := by
  go_enter Try.func78, Try.ntmps78
  go_wp2_with fail
  refine (eight_any x hx _).mono ?_
  rintro e1 w1 ⟨A1, c1, rfl, own1, hb1⟩
  have k1 := cells_box (t := 27) w w1 [.int .u64 (x : Int), .int .u64 (y : Int)] (hb1.mono (by simp)) 1 _ rfl
  have HB1 : Hid (Below w.heap.size w w1) := Lib.hid (((Below.refl _ _).alloc (Nat.le_refl _) _).trans (hb1.mono (by simp)))
  have H1 := Lib.hid own1
  have hl1 : w.heap.size < w1.heap.size := by have := hb1.size; simp at this; omega
  clear hb1 own1
  go_wp2_with fail
  refine (eight_any y hy _).mono ?_
  rintro e2 w2 ⟨A2, c2, rfl, own2, hb2⟩
  have H12 := Lib.hid (H1.out.below hb2)
  have HB2 := Lib.hid (HB1.out.trans (hb2.mono HB1.out.size))
  have H2 := Lib.hid own2
  have hl2 := hb2.size
  clear hb2 own2 k1
  go_wp2_with (at_builtin; (refine app8 rfl _ _ rfl (w.heap.size + 1) w1.heap.size A1 8 c1 (leK x 8) rfl (H12.out.mono (by simp)) A2 8 c2 (leK y 8) rfl H2.out (by omega) (by omega) (by omega) ?_); intro A' cap' w' hown2 _ hbel2)
  have H3 : Hid (OwnB w' w.heap.size A' 16 cap' (leK x 8 ++ leK y 8) ∧ Below w.heap.size w w') := Lib.hid ⟨hown2.mono (by omega), HB2.out.trans (hbel2.mono (by omega))⟩
  clear hown2 hbel2
  go_wp2
  go_ret
  exact ⟨A', cap', rfl, H3.out.1, H3.out.2⟩

end Go.Proofs.Ytamaeggkpdgaiaa
