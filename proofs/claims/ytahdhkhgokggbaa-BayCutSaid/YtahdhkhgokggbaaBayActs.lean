/- A bay's acts that came in, read; the lists of words that a crash keeps. -/
import Derived.Test.YtahdhkhgokggbaaRbyNew
import Derived.Test.YtahdhkhgokggbaaSectorB
import Derived.Test.YtahdhkhgokggbaaMbActs
namespace Go.Proofs.Ytahdhkhgokggbaa.Bay
open Go.RowKit Go.Proofs.Ytahdhkhgokggbaa.Mem Go.Proofs.Ytahdhkhgokggbaa.Opn Go.Proofs.Ytahdhkhgokggbaa.Sep Go.Proofs.Ytahdhkhgokggbaa.Member
open Go.Proofs.YtahdhkhgokggbaaW.PrintWords hiding bt
set_option linter.unusedVariables false
set_option linter.unusedSimpArgs false

structure Bm where
  x : Int
  i : Int
  t : Int
  d : UInt8
  odd : Bool
  ka : Option Addr
  kc : Nat
  KA : Ks
def Bm.cells (a : Bm) : List Value := [.int .i64 a.x, .int .i64 a.i, .int .i64 a.t, .int .u8 (a.d.toNat : Int), .bool a.odd, .slice a.ka a.KA.length a.kc]
structure Bm.ok (a : Bm) (w : World) : Prop where
  x : (Lit.int .i64 a.x).wf = true
  i : (Lit.int .i64 a.i).wf = true
  t : (Lit.int .i64 a.t).wf = true
  kl : a.KA.length ≤ a.kc
  kc : a.kc ≤ 9223372036854775807
  k : Wss w a.ka a.KA
  kb : ∀ x ∈ a.KA, x.2.2.length ≤ x.2.1 ∧ x.2.1 ≤ 9223372036854775807
def bmSh : Sh := .cons 1 (.int .i64) (.cons 1 (.int .i64) (.cons 1 (.int .i64) (.cons 1 (.int .u8) (.cons 1 .bool (.cons 1 (.slice 1 24 (.slice 1 8 (.int .u64))) .nil)))))
theorem choose_any {α : Type} {p : Nat → α → Prop} : ∀ n, (∀ i, i < n → ∃ x, p i x) → ∃ l : List α, l.length = n ∧ ∀ (i : Nat) x, l[i]? = some x → p i x
  | 0, _ => ⟨[], rfl, fun i x h => by simp at h⟩
  | n + 1, h => by
    obtain ⟨l, h1, h2⟩ := choose_any n (fun i hi => h i (by omega))
    obtain ⟨x, hx⟩ := h n (by omega)
    refine ⟨l ++ [x], by simp [h1], fun i y hy => ?_⟩
    by_cases hi : i < n
    · rw [List.getElem?_append_left (by omega)] at hy; exact h2 i y hy
    · have hl := (List.getElem?_eq_some_iff.1 hy).1
      rw [List.length_append, h1] at hl
      simp at hl
      obtain rfl : i = n := by omega
      rw [List.getElem?_append_right (by omega), h1, Nat.sub_self] at hy
      obtain rfl := (show x = y by simpa using hy)
      exact hx
theorem one_cell {cs : List Value} (h : cs.length = 1) : ∃ c, cs = [c] := List.length_eq_one_iff.1 h
theorem rd_lists {w : World} {c : Value} (h : Rd w (.slice 1 24 (.slice 1 8 (.int .u64))) [c]) : ∃ ka kc, ∃ KA : Ks, c = .slice ka KA.length kc ∧ KA.length ≤ kc ∧ kc ≤ 9223372036854775807 ∧ Wss w ka KA ∧ ∀ x ∈ KA, x.2.2.length ≤ x.2.1 ∧ x.2.1 ≤ 9223372036854775807 := by
  rcases h with h | ⟨x, l, c', hc, h1, h2, _, h3⟩
  · simp at h; subst h
    exact ⟨none, 0, [], rfl, Nat.le_refl _, by omega, fun i x hx => by simp at hx, fun p hp => by simp at hp⟩
  · simp at hc; subst hc
    have key : ∀ i, i < l → ∃ y : Option Addr × Nat × List Nat, w.cell? (x.add i) = some (.slice y.1 y.2.2.length y.2.1) ∧ U64s w y.1 y.2.2 ∧ y.2.2.length ≤ y.2.1 ∧ y.2.1 ≤ 9223372036854775807 := fun i hi => by
      obtain ⟨cs, hl, hcell, hr⟩ := h3 i (by omega)
      obtain ⟨cc, rfl⟩ := one_cell hl
      obtain ⟨ka, kc, K, rfl, k1, k2, k3, _⟩ := rd_words hr
      refine ⟨(ka, kc, K), ?_, k3, k1, k2⟩
      have := hcell 0 (by omega)
      simpa using this
    obtain ⟨KA, hK, hall⟩ := choose_any l key
    subst hK
    refine ⟨some x, c', KA, rfl, h1, by unfold maxLen at h2; omega, fun i y hy => ⟨x, rfl, (hall i y hy).1, (hall i y hy).2.1⟩, fun y hy => ?_⟩
    obtain ⟨i, hi⟩ := List.getElem?_of_mem hy
    exact (hall i y hi).2.2
theorem rd_bact {w : World} {cs : List Value} (h : Rd w bmSh cs) : ∃ a : Bm, a.ok w ∧ cs = a.cells := by
  obtain ⟨⟨x, e0, hx⟩, ⟨b, e1, hb⟩, ⟨t, e2, ht⟩, ⟨d, e3, hd⟩, ⟨o, e4⟩, h5, h6⟩ := h
  obtain ⟨r0, rfl⟩ := head1 e0
  obtain ⟨r1, rfl⟩ := head1 (by simpa using e1)
  obtain ⟨r2, rfl⟩ := head1 (by simpa using e2)
  obtain ⟨r3, rfl⟩ := head1 (by simpa using e3)
  obtain ⟨r4, rfl⟩ := head1 (by simpa using e4)
  have h5' : Rd w (.slice 1 24 (.slice 1 8 (.int .u64))) (r4.take 1) := by simpa using h5
  obtain ⟨c, hc⟩ : ∃ c, r4.take 1 = [c] := by
    rcases h5' with h | ⟨a, l, c, h, _⟩
    · exact ⟨_, h⟩
    · exact ⟨_, h⟩
  rw [hc] at h5'
  obtain ⟨r5, rfl⟩ := head1 hc
  have h6' : r5 = [] := by
    have h7 : Rd w .nil r5 := by simpa using h6
    exact h7
  subst h6'
  obtain ⟨ka, kc, KA, rfl, k1, k2, k3, k4⟩ := rd_lists h5'
  obtain ⟨m, rfl, hm⟩ := wf_byte hd
  exact ⟨⟨x, b, t, UInt8.ofNat m, o, ka, kc, KA⟩, ⟨hx, hb, ht, k1, k2, k3, k4⟩, by unfold Bm.cells; simp [Nat.mod_eq_of_lt hm]⟩
theorem rd_barg {w : World} {a : Array Value} (h : Rd w bmSh a.toList) : ∃ c : Bm, c.ok w ∧ a = c.cells.toArray := by
  obtain ⟨c, h1, h2⟩ := rd_bact h
  exact ⟨c, h1, by rw [← h2]⟩
/-- The acts that came in: each in its six cells. -/
theorem rd_bacts {w : World} {a : Option Addr} {len cap b : Nat} (h : Rd w (.slice 6 b bmSh) [.slice a len cap]) : len ≤ cap ∧ cap ≤ 9223372036854775807 ∧
    ∀ i, i < len → ∃ (x : Addr) (c : Bm), a = some x ∧ c.ok w ∧ ∀ j, j < 6 → w.cell? (x.add (i * 6 + j)) = c.cells[j]? := by
  rcases h with h | ⟨x, l, c', hc, h1, h2, _, h3⟩
  · simp at h
    obtain ⟨rfl, rfl, rfl⟩ := h
    exact ⟨Nat.le_refl _, by omega, fun i hi => by omega⟩
  · simp at hc
    obtain ⟨rfl, rfl, rfl⟩ := hc
    refine ⟨h1, by unfold maxLen at h2; omega, fun i hi => ?_⟩
    obtain ⟨cs, hl, hcell, hr⟩ := h3 i (by omega)
    obtain ⟨c, hok, rfl⟩ := rd_bact hr
    exact ⟨x, c, rfl, hok, hcell⟩
theorem bm_cells {w0 w : World} (hb : Below w0.heap.size w0 w) {x : Addr} {k : Nat} {c : Bm} (h : ∀ j, j < 6 → w0.cell? (x.add (k * 6 + j)) = c.cells[j]?) :
    w.cell? (x.add (k * 6)) = some (.int .i64 c.x) ∧ w.cell? ⟨(x.add (k * 6)).block, (x.add (k * 6)).off + 1, none⟩ = some (.int .i64 c.i) ∧ w.cell? ⟨(x.add (k * 6)).block, (x.add (k * 6)).off + 2, none⟩ = some (.int .i64 c.t) ∧ w.cell? ⟨(x.add (k * 6)).block, (x.add (k * 6)).off + 3, none⟩ = some (.int .u8 (c.d.toNat : Int)) ∧
    w.cell? ⟨(x.add (k * 6)).block, (x.add (k * 6)).off + 4, none⟩ = some (.bool c.odd) ∧ w.cell? ⟨(x.add (k * 6)).block, (x.add (k * 6)).off + 5, none⟩ = some (.slice c.ka c.KA.length c.kc) := by
  have key : ∀ j v, j < 6 → c.cells[j]? = some v → w.cell? ((x.add (k * 6)).add j) = some v := fun j v hj hv => by
    have h1 := h j hj
    rw [hv] at h1
    rw [Opn.add_add, hb.cell (World.block_lt_of_cell? w0 _ h1)]; exact h1
  exact ⟨key 0 _ (by omega) rfl, key 1 _ (by omega) rfl, key 2 _ (by omega) rfl, key 3 _ (by omega) rfl, key 4 _ (by omega) rfl, key 5 _ (by omega) rfl⟩
theorem U64s.later {w0 w : World} {a : Option Addr} {K : List Nat} (h : U64s w0 a K) (hb : Below w0.heap.size w0 w) : U64s w a K := fun i x hx => by
  obtain ⟨p, hp, h1, h2⟩ := h i x hx
  exact ⟨p, hp, h1, by rw [hb.cell (World.block_lt_of_cell? w0 _ h2)]; exact h2⟩
theorem Wss.later {w0 w : World} {a : Option Addr} {KA : Ks} (h : Wss w0 a KA) (hb : Below w0.heap.size w0 w) : Wss w a KA := fun i x hx => by
  obtain ⟨p, hp, h1, h2⟩ := h i x hx
  exact ⟨p, hp, by rw [hb.cell (World.block_lt_of_cell? w0 _ h1)]; exact h1, U64s.later h2 hb⟩
/-- Not too many words of not too many lists. -/
def cut4 (x : Option Addr × Nat × List Nat) : Option Addr × Nat × List Nat := (x.1, x.2.1, x.2.2.take 4)
def kept32 (KA : Ks) : Ks := (KA.take 32).map cut4
def slv (KA : Ks) : List Value := KA.map fun x => .slice x.1 x.2.2.length x.2.1
theorem slv_at {KA : Ks} {i : Nat} {x : Option Addr × Nat × List Nat} (h : KA[i]? = some x) : (slv KA)[i]? = some (.slice x.1 x.2.2.length x.2.1) := by unfold slv; simp [h]
theorem kept_len (KA : Ks) : (kept32 KA).length ≤ 32 := by unfold kept32; simp; omega
theorem kept_small (KA : Ks) : ∀ x ∈ kept32 KA, x.2.2.length ≤ 9223372036854775807 := fun x hx => by
  unfold kept32 at hx
  obtain ⟨y, _, rfl⟩ := List.mem_map.1 hx
  unfold cut4
  simp
  omega
theorem words_info : (Try.prog.info? 44).map (fun i => (i.zero, i.size, i.bytes)) = some (some (.slice none 0 0), 1, 24) := by kernel_rfl
/-- The row that holds them. -/
theorem kept_wss {w0 w' : World} {KA : Ks} {ka a : Option Addr} {c n : Nat} (hk : Wss w0 ka KA) (hb : Below w0.heap.size w0 w') (hr : w'.ownsRow 0 44 1 (.slice a n c) n (slv (kept32 KA))) : Wss w' a (kept32 KA) := fun i x hx => by
  obtain ⟨g, hg, h1⟩ := row_cell hr (slv_at hx)
  refine ⟨_, hg, by rw [Addr.add_mid, Nat.zero_add]; exact h1, ?_⟩
  unfold kept32 at hx
  rw [List.getElem?_map, List.getElem?_take] at hx
  split at hx
  · cases hy : KA[i]? with
    | none => rw [hy] at hx; cases hx
    | some y =>
      rw [hy] at hx
      obtain rfl : cut4 y = x := by simpa using hx
      obtain ⟨_, _, _, h2⟩ := hk i y hy
      intro j z hz
      unfold cut4 at hz ⊢
      simp only at hz ⊢
      rw [List.getElem?_take] at hz
      split at hz
      · exact U64s.later h2 hb j z hz
      · cases hz
  · cases hx
end Go.Proofs.Ytahdhkhgokggbaa.Bay
