/- A list of acts that came in, read. -/
import Derived.Test.YtahdhkhgokggbaaRef28U
import Derived.Test.YtahdhkhgokggbaaOpen
namespace Go.Proofs.Ytahdhkhgokggbaa.Judge
open Go.RowKit Go.Proofs.Ytahdhkhgokggbaa.Mem Go.Proofs.Ytahdhkhgokggbaa.Opn
set_option linter.unusedVariables false
set_option linter.unusedSimpArgs false

/-- An act's shape. -/
def actSh : Sh := .cons 1 (.int .i64) (.cons 1 (.int .i64) (.cons 1 (.int .u8) (.cons 1 .bool (.cons 1 .bool (.cons 1 (.slice 1 1 (.int .u8)) .nil)))))
def Ac.cells (a : Ac) : List Value := [.int .i64 a.x, .int .i64 a.b, .int .u8 (a.d.toNat : Int), .bool a.odd, .bool a.told, .slice a.pa a.pl a.pc]
theorem wf_byte {n : Int} (h : (Lit.int .u8 n).wf = true) : ∃ m : Nat, n = m ∧ m < 256 := by
  simp [Lit.wf, IntKind.min, IntKind.max, IntKind.signed, IntKind.bits] at h
  exact ⟨n.toNat, by omega, by omega⟩
theorem rd_bytes {w : World} {c : Value} (h : Rd w (.slice 1 1 (.int .u8)) [c]) : ∃ pa pl pc, c = .slice pa pl pc ∧ pl ≤ pc ∧ pc ≤ 9223372036854775807 ∧ ∀ j, j < pl → ∃ (x : Addr) (m : Nat), pa = some x ∧ m < 256 ∧ w.cell? (x.add j) = some (.int .u8 (m : Nat)) := by
  rcases h with h | ⟨x, l, c', hc, h1, h2, _, h3⟩
  · simp at h; subst h
    exact ⟨none, 0, 0, rfl, Nat.le_refl _, by omega, fun j hj => by omega⟩
  · simp at hc; subst hc
    refine ⟨some x, l, c', rfl, h1, by unfold maxLen at h2; omega, fun j hj => ?_⟩
    obtain ⟨cs, hl, hcell, n, rfl, hn⟩ := h3 j (by omega)
    obtain ⟨m, rfl, hm⟩ := wf_byte hn
    refine ⟨x, m, rfl, hm, ?_⟩
    have := hcell 0 (by omega)
    simpa using this
theorem rd_act {w : World} {cs : List Value} (hl : cs.length = 6) (h : Rd w actSh cs) : ∃ a : Ac, a.ok w ∧ cs = a.cells := by
  match cs, hl with
  | [c0, c1, c2, c3, c4, c5], _ =>
    obtain ⟨⟨x, e0, hx⟩, ⟨b, e1, hb⟩, ⟨d, e2, hd⟩, ⟨o, e3⟩, ⟨t, e4⟩, h5, _⟩ := h
    simp at e0 e1 e2 e3 e4
    subst e0; subst e1; subst e2; subst e3; subst e4
    obtain ⟨pa, pl, pc, rfl, h1, h2, h3⟩ := rd_bytes (c := c5) (by simpa using h5)
    obtain ⟨m, rfl, hm⟩ := wf_byte hd
    exact ⟨⟨x, b, UInt8.ofNat m, o, t, pa, pl, pc⟩, ⟨hx, hb, h1, h2, h3⟩, by unfold Ac.cells; simp [Nat.mod_eq_of_lt hm]⟩
/-- The acts that came in: each in its six cells. -/
theorem rd_acts {w : World} {a : Option Addr} {len cap b : Nat} (h : Rd w (.slice 6 b actSh) [.slice a len cap]) : len ≤ cap ∧ cap ≤ 9223372036854775807 ∧
    ∀ i, i < len → ∃ (x : Addr) (c : Ac), a = some x ∧ c.ok w ∧ ∀ j, j < 6 → w.cell? (x.add (i * 6 + j)) = c.cells[j]? := by
  rcases h with h | ⟨x, l, c', hc, h1, h2, _, h3⟩
  · simp at h
    obtain ⟨rfl, rfl, rfl⟩ := h
    exact ⟨Nat.le_refl _, by omega, fun i hi => by omega⟩
  · simp at hc
    obtain ⟨rfl, rfl, rfl⟩ := hc
    refine ⟨h1, by unfold maxLen at h2; omega, fun i hi => ?_⟩
    obtain ⟨cs, hl, hcell, hr⟩ := h3 i (by omega)
    obtain ⟨c, hok, rfl⟩ := rd_act hl hr
    exact ⟨x, c, rfl, hok, hcell⟩
end Go.Proofs.Ytahdhkhgokggbaa.Judge
