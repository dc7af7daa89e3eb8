/- A raw label that came in, read. -/
import Derived.Test.YtmpbohbecidkhaaLabWk
import Derived.Test.YtmpbohbecidkhaaOpen
namespace Go.Proofs.Ytmpbohbecidkhaa.Lab
open Go.RowKit Go.Proofs.Ytmpbohbecidkhaa.Mem Go.Proofs.Ytmpbohbecidkhaa.Sep Go.Proofs.Ytmpbohbecidkhaa.Opn Go.Proofs.Ytmpbohbecidkhaa.App
set_option linter.unusedVariables false
set_option linter.unusedSimpArgs false

theorem choose_ints {p : Nat → Int → Prop} : ∀ n, (∀ i, i < n → ∃ x, p i x) → ∃ l : List Int, l.length = n ∧ ∀ (i : Nat) x, l[i]? = some x → p i x
  | 0, _ => ⟨[], rfl, fun i x h => by simp at h⟩
  | n + 1, h => by
    obtain ⟨l, h1, h2⟩ := choose_ints n (fun i hi => h i (by omega))
    obtain ⟨x, hx⟩ := h n (by omega)
    refine ⟨l ++ [x], by simp [h1], fun i y hy => ?_⟩
    by_cases hi : i < n
    · rw [List.getElem?_append_left (by omega)] at hy; exact h2 i y hy
    · have hl := (List.getElem?_eq_some_iff.1 hy).1
      rw [List.length_append, h1] at hl
      simp at hl
      obtain rfl : i = n := by omega
      rw [List.getElem?_append_right (by omega), h1, Nat.sub_self] at hy
      obtain rfl := (show x = y by simpa using hy)
      exact hx
theorem rd_ints {w : World} {c : Value} (h : Rd w (.slice 1 8 (.int .i64)) [c]) : ∃ a n cp L, c = .slice a n cp ∧ List.length L = n ∧ n ≤ cp ∧ cp ≤ 9223372036854775807 ∧ Rw w a L := by
  rcases h with h | ⟨x, l, c', hc, h1, h2, _, h3⟩
  · simp at h; subst h
    exact ⟨none, 0, 0, [], rfl, rfl, Nat.le_refl _, by omega, fun i x hx => by simp at hx⟩
  · simp at hc; subst hc
    have key : ∀ i, i < l → ∃ m : Int, w.cell? (x.add i) = some (.int .i64 m) := fun i hi => by
      obtain ⟨cs, hl, hcell, n, rfl, hn⟩ := h3 i (by omega)
      refine ⟨n, ?_⟩
      have := hcell 0 (by omega)
      simpa using this
    obtain ⟨K, hK, hall⟩ := choose_ints l key
    exact ⟨some x, l, c', K, rfl, hK, h1, by unfold maxLen at h2; omega, fun i y hy => ⟨x, rfl, hall i y hy⟩⟩
theorem head1 {cs : List Value} {v : Value} (h : cs.take 1 = [v]) : ∃ r, cs = v :: r := by
  cases cs with
  | nil => simp at h
  | cons a r => simp at h; exact ⟨r, by rw [h]⟩
theorem slice_one {w : World} {n b : Nat} {e : Sh} {cs : List Value} (h : Rd w (.slice n b e) cs) : ∃ c, cs = [c] := by
  rcases h with h | ⟨a, l, c, h, _⟩
  · exact ⟨_, h⟩
  · exact ⟨_, h⟩
def rawSh : Sh := .cons 1 (.int .i64) (.cons 1 (.int .i64) (.cons 1 (.int .i64) (.cons 1 (.slice 1 8 (.int .i64)) (.cons 1 (.slice 1 8 (.int .i64)) .nil))))
/-- A raw label, as it came in. -/
structure RawOk (w : World) (cs : List Value) (l : Lb) (a1 : Option Addr) (n1 c1 : Nat) (a2 : Option Addr) (n2 c2 : Nat) : Prop where
  cs : cs = [.int .i64 l.m, .int .i64 l.t, .int .i64 l.ep, .slice a1 n1 c1, .slice a2 n2 c2]
  l1 : l.st.length = n1
  l2 : l.mr.length = n2
  s1 : n1 ≤ c1
  s2 : n2 ≤ c2
  t1 : c1 ≤ 9223372036854775807
  t2 : c2 ≤ 9223372036854775807
  r1 : Rw w a1 l.st
  r2 : Rw w a2 l.mr
theorem rd_raw {w : World} {cs : List Value} (h : Rd w rawSh cs) : ∃ l a1 n1 c1 a2 n2 c2, RawOk w cs l a1 n1 c1 a2 n2 c2 := by
  obtain ⟨⟨m, e0, _⟩, ⟨t, e1, _⟩, ⟨ep, e2, _⟩, h4, h5, h6⟩ := h
  obtain ⟨r0, rfl⟩ := head1 e0
  obtain ⟨r1, rfl⟩ := head1 (by simpa using e1)
  obtain ⟨r2, rfl⟩ := head1 (by simpa using e2)
  have h4' : Rd w (.slice 1 8 (.int .i64)) (r2.take 1) := by simpa using h4
  obtain ⟨c, hc⟩ := slice_one h4'
  rw [hc] at h4'
  obtain ⟨r3, rfl⟩ := head1 hc
  have h5' : Rd w (.slice 1 8 (.int .i64)) (r3.take 1) := by simpa using h5
  obtain ⟨d, hd⟩ := slice_one h5'
  rw [hd] at h5'
  obtain ⟨r4, rfl⟩ := head1 hd
  have h6' : r4 = [] := by
    have h7 : Rd w .nil r4 := by simpa using h6
    exact h7
  subst h6'
  obtain ⟨a1, n1, c1, st, rfl, k1, k2, k3, k4⟩ := rd_ints h4'
  obtain ⟨a2, n2, c2, mr, rfl, j1, j2, j3, j4⟩ := rd_ints h5'
  exact ⟨⟨m, t, ep, st, mr⟩, a1, n1, c1, a2, n2, c2, ⟨rfl, k1, j1, k2, j2, k3, j3, k4, j4⟩⟩
theorem rd_rawA {w : World} {a : Array Value} (h : Rd w rawSh a.toList) : ∃ l a1 n1 c1 a2 n2 c2, RawOk w a.toList l a1 n1 c1 a2 n2 c2 ∧ a = #[.int .i64 l.m, .int .i64 l.t, .int .i64 l.ep, .slice a1 n1 c1, .slice a2 n2 c2] := by
  obtain ⟨l, a1, n1, c1, a2, n2, c2, h⟩ := rd_raw h
  exact ⟨l, a1, n1, c1, a2, n2, c2, h, by rw [← Array.toArray_toList (xs := a), h.cs]⟩
/-- Both labels of a raw one that came in. -/
theorem labels_raw {W w : World} {cs : List Value} {l : Lb} {a1 : Option Addr} {n1 c1 : Nat} {a2 : Option Addr} {n2 c2 : Nat} (h : RawOk W cs l a1 n1 c1 a2 n2 c2) (hb : Below W.heap.size W w) :
    Calls Try.prog 14 #[.agg #[.int .i64 l.m, .int .i64 l.t, .int .i64 l.ep, .slice a1 n1 c1, .slice a2 n2 c2]] w fun e w' => (∃ va vb, e = .returned (.tuple #[va, vb]) ∧ Got w' va (cut40 l) ∧ Got w' vb (cut40 l)) ∧ Below w.heap.size w w' := by
  obtain ⟨m, t, ep, st, mr⟩ := l
  exact labels_calls m t ep st mr a1 a2 n1 n2 c1 c2 h.l1 h.l2 h.s1 h.s2 h.t1 h.t2 w (h.r1.step hb) (h.r2.step hb)
/-- Two labels in two boxes, and all that was there as it was. -/
structure Bx (W : World) (q : Lb) (qa qb : Nat) (A B : Array Value) (T U : TypeId) (w : World) : Prop where
  ca : Blk w qa A T
  cb : Blk w qb B U
  ga : Got w (.agg A) q
  gb : Got w (.agg B) q
  bel : Below W.heap.size W w
section
variable {W w w' : World} {q : Lb} {qa qb : Nat} {A B : Array Value} {T U : TypeId}
theorem Bx.step (h : Bx W q qa qb A B T U w) (k : Below w.heap.size w w') : Bx W q qa qb A B T U w' := ⟨h.ca.below k h.ca.lt, h.cb.below k h.cb.lt, h.ga.step k, h.gb.step k, bt h.bel k⟩
theorem Bx.drew (h : Bx W q qa qb A B T U w) : Bx W q qa qb A B T U w.drew := h.step (bd1 (br _))
theorem Bx.new (hb : Below W.heap.size W w) (ga : Got w (.agg A) q) (gb : Got w (.agg B) q) (n : Nat) (hn : n = w.heap.size + 1) : Bx W q w.heap.size n A B T U ((w.alloc (.cells A T)).alloc (.cells B U)) := by
  have h1 := Blk.new w A T
  have h2 := Blk.new (w.alloc (.cells A T)) B U
  rw [show (w.alloc (.cells A T)).heap.size = n by rw [hn]; simp] at h2
  exact ⟨h1.alloc _, h2, ga.step (ba (ba (br _) _) _), gb.step (ba (ba (br _) _) _), ba (ba hb _) _⟩
theorem Bx.cells {a0 a1 a2 a3 a4 b0 b1 b2 b3 b4 : Value} (h : Bx W q qa qb #[a0, a1, a2, a3, a4] #[b0, b1, b2, b3, b4] T U w) :
    w.cell? ⟨qa, 0, none⟩ = some a0 ∧ w.cell? ⟨qa, 1, none⟩ = some a1 ∧ w.cell? ⟨qa, 2, none⟩ = some a2 ∧ w.cell? ⟨qa, 3, none⟩ = some a3 ∧ w.cell? ⟨qa, 4, none⟩ = some a4 ∧
    w.cell? ⟨qb, 0, none⟩ = some b0 ∧ w.cell? ⟨qb, 1, none⟩ = some b1 ∧ w.cell? ⟨qb, 2, none⟩ = some b2 ∧ w.cell? ⟨qb, 3, none⟩ = some b3 ∧ w.cell? ⟨qb, 4, none⟩ = some b4 :=
  ⟨h.ca.cell 0, h.ca.cell 1, h.ca.cell 2, h.ca.cell 3, h.ca.cell 4, h.cb.cell 0, h.cb.cell 1, h.cb.cell 2, h.cb.cell 3, h.cb.cell 4⟩
end
end Go.Proofs.Ytmpbohbecidkhaa.Lab
