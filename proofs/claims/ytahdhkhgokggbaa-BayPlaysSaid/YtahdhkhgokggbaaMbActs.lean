/- A member's acts that came in, read. -/
import Derived.Test.YtahdhkhgokggbaaMbW
import Derived.Test.YtahdhkhgokggbaaOpen
namespace Go.Proofs.Ytahdhkhgokggbaa.Member
open Go.RowKit Go.Proofs.Ytahdhkhgokggbaa.Mem Go.Proofs.Ytahdhkhgokggbaa.Opn Go.Proofs.Ytahdhkhgokggbaa.Sep
set_option linter.unusedVariables false
set_option linter.unusedSimpArgs false

structure Am where
  x : Int
  i : Int
  d : UInt8
  odd : Bool
  ka : Option Addr
  kc : Nat
  K : List Nat
def Am.cells (a : Am) : List Value := [.int .i64 a.x, .int .i64 a.i, .int .u8 (a.d.toNat : Int), .bool a.odd, .slice a.ka a.K.length a.kc]
structure Am.ok (a : Am) (w : World) : Prop where
  x : (Lit.int .i64 a.x).wf = true
  i : (Lit.int .i64 a.i).wf = true
  kl : a.K.length ≤ a.kc
  kc : a.kc ≤ 9223372036854775807
  k : U64s w a.ka a.K
  kb : ∀ p, a.ka = some p → 0 < a.K.length → p.block < w.heap.size
def amSh : Sh := .cons 1 (.int .i64) (.cons 1 (.int .i64) (.cons 1 (.int .u8) (.cons 1 .bool (.cons 1 (.slice 1 8 (.int .u64)) .nil))))
theorem wf_byte {n : Int} (h : (Lit.int .u8 n).wf = true) : ∃ m : Nat, n = m ∧ m < 256 := by
  simp [Lit.wf, IntKind.min, IntKind.max, IntKind.signed, IntKind.bits] at h
  exact ⟨n.toNat, by omega, by omega⟩
theorem wf_u64 {n : Int} (h : (Lit.int .u64 n).wf = true) : ∃ m : Nat, n = m ∧ m < 18446744073709551616 := by
  simp [Lit.wf, IntKind.min, IntKind.max, IntKind.signed, IntKind.bits] at h
  exact ⟨n.toNat, by omega, by omega⟩
theorem choose_list {p : Nat → Nat → Prop} : ∀ n, (∀ i, i < n → ∃ x, p i x) → ∃ l : List Nat, l.length = n ∧ ∀ (i : Nat) x, l[i]? = some x → p i x
  | 0, _ => ⟨[], rfl, fun i x h => by simp at h⟩
  | n + 1, h => by
    obtain ⟨l, h1, h2⟩ := choose_list n (fun i hi => h i (by omega))
    obtain ⟨x, hx⟩ := h n (by omega)
    refine ⟨l ++ [x], by simp [h1], fun i y hy => ?_⟩
    by_cases hi : i < n
    · rw [List.getElem?_append_left (by omega)] at hy; exact h2 i y hy
    · have hl := (List.getElem?_eq_some_iff.1 hy).1
      rw [List.length_append, h1] at hl
      simp at hl
      obtain rfl : i = n := by omega
      rw [List.getElem?_append_right (by omega), h1, Nat.sub_self] at hy
      obtain rfl := (show x = y by simpa using hy)
      exact hx
theorem rd_words {w : World} {c : Value} (h : Rd w (.slice 1 8 (.int .u64)) [c]) : ∃ ka kc K, c = .slice ka (List.length K) kc ∧ List.length K ≤ kc ∧ kc ≤ 9223372036854775807 ∧ U64s w ka K ∧ ∀ p, ka = some p → 0 < List.length K → p.block < w.heap.size := by
  rcases h with h | ⟨x, l, c', hc, h1, h2, _, h3⟩
  · simp at h; subst h
    exact ⟨none, 0, [], rfl, Nat.le_refl _, by omega, fun i x hx => by simp at hx, fun p hp => by cases hp⟩
  · simp at hc; subst hc
    have key : ∀ i, i < l → ∃ m : Nat, m < 18446744073709551616 ∧ w.cell? (x.add i) = some (.int .u64 (m : Nat)) := fun i hi => by
      obtain ⟨cs, hl, hcell, n, rfl, hn⟩ := h3 i (by omega)
      obtain ⟨m, rfl, hm⟩ := wf_u64 hn
      refine ⟨m, hm, ?_⟩
      have := hcell 0 (by omega)
      simpa using this
    obtain ⟨K, hK, hall⟩ := choose_list l key
    subst hK
    refine ⟨some x, c', K, rfl, h1, by unfold maxLen at h2; omega, fun i y hy => ⟨x, rfl, (hall i y hy).1, (hall i y hy).2⟩, fun p hp hl => ?_⟩
    cases hp
    obtain ⟨m, _, hm⟩ := key 0 hl
    exact World.block_lt_of_cell? w _ hm
theorem head1 {cs : List Value} {v : Value} (h : cs.take 1 = [v]) : ∃ r, cs = v :: r := by
  cases cs with
  | nil => simp at h
  | cons a r => simp at h; exact ⟨r, by rw [h]⟩
theorem rd_act {w : World} {cs : List Value} (h : Rd w amSh cs) : ∃ a : Am, a.ok w ∧ cs = a.cells := by
  obtain ⟨⟨x, e0, hx⟩, ⟨b, e1, hb⟩, ⟨d, e2, hd⟩, ⟨o, e3⟩, h5, h6⟩ := h
  obtain ⟨r0, rfl⟩ := head1 e0
  obtain ⟨r1, rfl⟩ := head1 (by simpa using e1)
  obtain ⟨r2, rfl⟩ := head1 (by simpa using e2)
  obtain ⟨r3, rfl⟩ := head1 (by simpa using e3)
  have h5' : Rd w (.slice 1 8 (.int .u64)) (r3.take 1) := by simpa using h5
  obtain ⟨c, hc⟩ : ∃ c, r3.take 1 = [c] := by
    rcases h5' with h | ⟨a, l, c, h, _⟩
    · exact ⟨_, h⟩
    · exact ⟨_, h⟩
  rw [hc] at h5'
  obtain ⟨r4, rfl⟩ := head1 hc
  have h6' : r4 = [] := by
    have h7 : Rd w .nil r4 := by simpa using h6
    exact h7
  subst h6'
  obtain ⟨ka, kc, K, rfl, k1, k2, k3, k4⟩ := rd_words h5'
  obtain ⟨m, rfl, hm⟩ := wf_byte hd
  exact ⟨⟨x, b, UInt8.ofNat m, o, ka, kc, K⟩, ⟨hx, hb, k1, k2, k3, k4⟩, by unfold Am.cells; simp [Nat.mod_eq_of_lt hm]⟩
theorem rd_arg {w : World} {a : Array Value} (h : Rd w amSh a.toList) : ∃ c : Am, c.ok w ∧ a = c.cells.toArray := by
  obtain ⟨c, h1, h2⟩ := rd_act h
  exact ⟨c, h1, by rw [← h2]⟩
/-- The acts that came in: each in its five cells. -/
theorem rd_acts {w : World} {a : Option Addr} {len cap b : Nat} (h : Rd w (.slice 5 b amSh) [.slice a len cap]) : len ≤ cap ∧ cap ≤ 9223372036854775807 ∧
    ∀ i, i < len → ∃ (x : Addr) (c : Am), a = some x ∧ c.ok w ∧ ∀ j, j < 5 → w.cell? (x.add (i * 5 + j)) = c.cells[j]? := by
  rcases h with h | ⟨x, l, c', hc, h1, h2, _, h3⟩
  · simp at h
    obtain ⟨rfl, rfl, rfl⟩ := h
    exact ⟨Nat.le_refl _, by omega, fun i hi => by omega⟩
  · simp at hc
    obtain ⟨rfl, rfl, rfl⟩ := hc
    refine ⟨h1, by unfold maxLen at h2; omega, fun i hi => ?_⟩
    obtain ⟨cs, hl, hcell, hr⟩ := h3 i (by omega)
    obtain ⟨c, hok, rfl⟩ := rd_act hr
    exact ⟨x, c, rfl, hok, hcell⟩
theorem am_cells {w0 w : World} (hb : Below w0.heap.size w0 w) {x : Addr} {k : Nat} {c : Am} (h : ∀ j, j < 5 → w0.cell? (x.add (k * 5 + j)) = c.cells[j]?) :
    w.cell? (x.add (k * 5)) = some (.int .i64 c.x) ∧ w.cell? ⟨(x.add (k * 5)).block, (x.add (k * 5)).off + 1, none⟩ = some (.int .i64 c.i) ∧ w.cell? ⟨(x.add (k * 5)).block, (x.add (k * 5)).off + 2, none⟩ = some (.int .u8 (c.d.toNat : Int)) ∧
    w.cell? ⟨(x.add (k * 5)).block, (x.add (k * 5)).off + 3, none⟩ = some (.bool c.odd) ∧ w.cell? ⟨(x.add (k * 5)).block, (x.add (k * 5)).off + 4, none⟩ = some (.slice c.ka c.K.length c.kc) := by
  have key : ∀ j v, j < 5 → c.cells[j]? = some v → w.cell? ((x.add (k * 5)).add j) = some v := fun j v hj hv => by
    have h1 := h j hj
    rw [hv] at h1
    rw [Opn.add_add, hb.cell (World.block_lt_of_cell? w0 _ h1)]; exact h1
  exact ⟨key 0 _ (by omega) rfl, key 1 _ (by omega) rfl, key 2 _ (by omega) rfl, key 3 _ (by omega) rfl, key 4 _ (by omega) rfl⟩
/-- The words of an act, in a later world. -/
theorem Am.ok.words {w0 w : World} {c : Am} (h : c.ok w0) (hb : Below w0.heap.size w0 w) : U64s w c.ka c.K := fun i x hx => by
  obtain ⟨p, hp, h1, h2⟩ := h.k i x hx
  exact ⟨p, hp, h1, by rw [hb.cell (World.block_lt_of_cell? w0 _ h2)]; exact h2⟩
end Go.Proofs.Ytahdhkhgokggbaa.Member
