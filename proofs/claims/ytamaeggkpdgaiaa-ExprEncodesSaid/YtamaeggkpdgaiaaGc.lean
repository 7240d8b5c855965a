/- Copies of slices: 'append(nil, xs...)'. A general law; no program in sight. -/
import Derived.Test.YtamaeggkpdgaiaaGb
import Derived.Deep.AppendLies
import Derived.Laws.AppendOwnNone
import Derived.Deep.RegionHeld3
namespace Go.Proofs.Ytamaeggkpdgaiaa
open Go.RowKit

/-- What a slice of no address looks like. -/
def Shape (A : Option Addr) (n c : Nat) : Prop := (A = none ∧ n = 0 ∧ c = 0) ∨ ∃ ad, A = some ad

theorem Shape.of_own {w : World} {base e c n cap : Nat} {A : Option Addr} {xs : List Value} (h : w.ownsRow base e c (.slice A n cap) n xs) : Shape A n cap := by
  rcases h.2 with ⟨hv, h0⟩ | ⟨g', cp, cur, hv, _⟩
  · injection hv with h1 h2 h3
    exact Or.inl ⟨h1, h2, h3⟩
  · injection hv with h1 h2 h3
    exact Or.inr ⟨_, h1⟩

theorem RowN.news {w : World} {B c n : Nat} {A : Option Addr} {F : Nat → Nat → Value} (h : RowN w B c A n F) (hc : 0 < c) {ad : Addr} (hA : A = some ad) {j : Nat} {u : Value} (hj : (flatN n c F)[j]? = some u) : w.cell? (ad.add j) = some u := by
  have hlt : j < n * c := by
    have := (List.getElem?_eq_some_iff.1 hj).1
    rwa [flatN_length] at this
  have hn : 0 < n := by
    rcases Nat.eq_zero_or_pos n with h0 | h0
    · subst h0; omega
    · exact h0
  obtain ⟨b, off, e, _, hcell⟩ := h hn
  rw [hA] at e; injection e with e; subst e
  have h1 : j / c < n := by rw [Nat.div_lt_iff_lt_mul hc]; exact hlt
  have h2 : j % c < c := Nat.mod_lt _ hc
  have h3 : j / c * c + j % c = j := Nat.div_add_mod' j c
  have hg := flatN_get (F := F) h1 h2
  rw [h3, hj] at hg
  injection hg with hg
  have := hcell _ h1 _ h2
  rw [Nat.add_assoc, h3] at this
  unfold Addr.add
  by_cases h0 : j = 0
  · subst h0; rw [if_pos rfl, hg]; simpa using this
  · simp [h0]; rw [this, hg]

section
variable {P : Program} (w : World)

theorem run_append_copy (t ty e : TypeId) (i : TypeInfo) (z : Value) (size bytes : Nat) (ht : P.underlying t = some (.slice e)) (hi : P.info? e = some i) (hz : i.zero = some z)
    (hsize : i.size = size) (hby : i.bytes = bytes) (hzs : z.cells.size = size) (hsz : 0 < size)
    (A : Option Addr) (m c : Nat) (news : List Value) (hsh : Shape A m c) (hl : news.length = m * size) (hnews : ∀ ad, A = some ad → ∀ j u, news[j]? = some u → w.cell? (ad.add j) = some u) (h1 : ∀ u ∈ news, u.oneCell' = true)
    (h63 : m ≤ maxLen) (hbytes : m * bytes ≤ 140737488355328) :
    ∃ A' cap w', (Builtin.append_ #[t, t] ty #[.slice none 0 0, .slice A m c]).run P w = .ok (.slice A' m cap) w' ∧ w'.ownsRow w.heap.size e size (.slice A' m cap) m news ∧ Below w.heap.size w w' := by
  have hnil : w.ownsRow w.heap.size e size (.slice none 0 0) 0 [] := ⟨by simp, Or.inl ⟨rfl, rfl⟩⟩
  rcases hsh with ⟨rfl, rfl, rfl⟩ | ⟨ad, rfl⟩
  · have hn : news = [] := List.eq_nil_of_length_eq_zero (by simpa using hl)
    subst hn
    exact ⟨none, 0, w, run_append_owned_none (P := P) (w := w) w.heap.size t ty e i size ht hi _ 0 [] hnil, hnil, Below.refl _ _⟩
  · obtain ⟨v', w', hr, h2, h3, _⟩ := run_append_own (P := P) w w.heap.size t ty e i z size bytes ht hi hz hsize hby hzs hsz _ 0 [] hnil ad m c news hl (hnews ad rfl) h1 (by omega) (by simpa using hbytes) (Nat.le_refl _)
    rw [Nat.zero_add, List.nil_append] at h2
    obtain ⟨A', cap, rfl⟩ := own_form h2
    exact ⟨A', cap, w', hr, h2, (Below.refl _ w).grown h3 (Nat.le_refl _) (by intro k hk; cases hk)⟩

theorem wp_append_copy {o : Oper} {a : Act} {K : Act → World → Prop} {Q : Exit → Act → World → Prop} (s x : Operand) (t : TypeId)
    (ho : o.op = .call { callee := .builtin .append, args := #[s, x], argTypes := #[t, t] })
    (e : TypeId) (i : TypeInfo) (z : Value) (size bytes : Nat) (ht : P.underlying t = some (.slice e)) (hi : P.info? e = some i) (hz : i.zero = some z)
    (hsize : i.size = size) (hby : i.bytes = bytes) (hzs : z.cells.size = size) (hsz : 0 < size)
    (hs : a.eval s = .slice none 0 0) (A : Option Addr) (m c : Nat) (news : List Value) (hx : a.eval x = .slice A m c) (hsh : Shape A m c) (hl : news.length = m * size) (hnews : ∀ ad, A = some ad → ∀ j u, news[j]? = some u → w.cell? (ad.add j) = some u) (h1 : ∀ u ∈ news, u.oneCell' = true)
    (h63 : m ≤ maxLen) (hbytes : m * bytes ≤ 140737488355328)
    (h : ∀ A' cap w', w'.ownsRow w.heap.size e size (.slice A' m cap) m news → Below w.heap.size w w' → K (a.put o.dst (.slice A' m cap)) w') : o.wp P a w K Q := by
  obtain ⟨A', cap, w', hr, h2, h3⟩ := run_append_copy (P := P) w t o.type e i z size bytes ht hi hz hsize hby hzs hsz A m c news hsh hl hnews h1 h63 hbytes
  unfold Oper.wp execOp
  simp only [ho, resolve, invoke, builtin, Sem.run_bind, Sem.run_pure, Result.andThen_ok, List.map_toArray, List.map_cons, List.map_nil, hs, hx, hr]
  exact h A' cap w' h2 h3

theorem step_append_copy {ops : Array Oper} {o : Oper} {a : Act} {K : Act → World → Prop} {Q : Exit → Act → World → Prop} {E : Prop} (hgd : o.guard = none) (s x : Operand) (t : TypeId)
    (ho : o.op = .call { callee := .builtin .append, args := #[s, x], argTypes := #[t, t] })
    (e : TypeId) (i : TypeInfo) (z : Value) (size bytes : Nat) (ht : P.underlying t = some (.slice e)) (hi : P.info? e = some i) (hz : i.zero = some z)
    (hsize : i.size = size) (hby : i.bytes = bytes) (hzs : z.cells.size = size) (hsz : 0 < size)
    (hs : a.eval s = .slice none 0 0) (A : Option Addr) (m c : Nat) (news : List Value) (hx : a.eval x = .slice A m c) (hsh : Shape A m c) (hl : news.length = m * size) (hnews : ∀ ad, A = some ad → ∀ j u, news[j]? = some u → w.cell? (ad.add j) = some u) (h1 : ∀ u ∈ news, u.oneCell' = true)
    (h63 : m ≤ maxLen) (hbytes : m * bytes ≤ 140737488355328)
    (h : ∀ A' cap w', w'.ownsRow w.heap.size e size (.slice A' m cap) m news → Below w.heap.size w w' → K (a.put o.dst (.slice A' m cap)) w') :
    if Region.wanted o (yielded ops a.tmps) = true then Oper.wp P o a w K Q else E := by
  have hw : Region.wanted o (yielded ops a.tmps) = true := by simp [Region.wanted, hgd]
  rw [if_pos hw]
  exact wp_append_copy w s x t ho e i z size bytes ht hi hz hsize hby hzs hsz hs A m c news hx hsh hl hnews h1 h63 hbytes h
end

end Go.Proofs.Ytamaeggkpdgaiaa
