/- Two rows of columns that grow side by side, beside a row that is read and bytes that are written. -/
import Derived.Test.YtgojbngdncligaaSynRow
import Derived.Deep.AppendLies
namespace Go.Proofs.Ytgojbngdncligaa.Syn
open Go.RowKit Go.Proofs.Ytgojbngdncligaa.Mem Go.Proofs.Ytgojbngdncligaa.Bulk Go.Proofs.Ytgojbngdncligaa.Bts Go.Proofs.Ytgojbngdncligaa.Lanes Go.Proofs.Ytgojbngdncligaa.Words
open Go.Lib (Bytes run_convert_whole)
set_option linter.unusedVariables false
set_option linter.unusedSimpArgs false

theorem own_same {w w1 : World} {base : Nat} {e : TypeId} {size n : Nat} {v : Value} {xs : List Value} (h : w.ownsRow base e size v n xs) (hm : ∀ k, v.ownBlock = some k → w1.heap[k]? = w.heap[k]?) : w1.ownsRow base e size v n xs := by
  obtain ⟨h1, h2⟩ := h
  refine ⟨h1, ?_⟩
  rcases h2 with h2 | ⟨g, cap, cur, rfl, hg, hh, r⟩
  · exact .inl h2
  · exact .inr ⟨g, cap, cur, rfl, hg, (hm g (by simp [Value.ownBlock])).trans hh, r⟩

/-- Two rows that were made, and the row that was given. -/
structure T3 (w0 : World) (g : Nat) (L : List ByteArray) (w : World) (v6 v7 : Value) (ms bs : List ByteArray) : Prop where
  a : w.ownsRow w0.heap.size 9 1 v6 ms.length (ms.map Value.string)
  b : w.ownsRow w0.heap.size 9 1 v7 bs.length (bs.map Value.string)
  ab : ∀ p, v6.ownBlock = some p → v7.ownBlock ≠ some p
  ag : v6.ownBlock ≠ some g
  bg : v7.ownBlock ≠ some g
  row : Row g L w
  below : Below w0.heap.size w0 w
theorem T3.step {w0 : World} {g : Nat} {L : List ByteArray} {w w' : World} {v6 v7 : Value} {ms bs : List ByteArray} (h : T3 w0 g L w v6 v7 ms bs) (k : Below w.heap.size w w') : T3 w0 g L w' v6 v7 ms bs :=
  ⟨own_same h.a (fun p hp => k.block p (h.a.lt p hp).2), own_same h.b (fun p hp => k.block p (h.b.lt p hp).2), h.ab, h.ag, h.bg, h.row.step k, bt h.below k⟩
/-- The same with bytes that are written. -/
structure T4 (w0 : World) (g q : Nat) (L : List ByteArray) (xb : List Nat) (w : World) (v6 v7 : Value) (ms bs : List ByteArray) : Prop where
  t : T3 w0 g L w v6 v7 ms bs
  aq : v6.ownBlock ≠ some q
  bq : v7.ownBlock ≠ some q
  gq : g ≠ q
  qB : w0.heap.size ≤ q
  x : Bs w q xb
  ql : q < w.heap.size
theorem T4.step {w0 : World} {g q : Nat} {L : List ByteArray} {xb : List Nat} {w w' : World} {v6 v7 : Value} {ms bs : List ByteArray} (h : T4 w0 g q L xb w v6 v7 ms bs) (k : Below w.heap.size w w') : T4 w0 g q L xb w' v6 v7 ms bs :=
  ⟨h.t.step k, h.aq, h.bq, h.gq, h.qB, h.x.below k h.ql, Nat.lt_of_lt_of_le h.ql k.size⟩
theorem T4.alloc {w0 : World} {g q : Nat} {L : List ByteArray} {xb : List Nat} {w : World} {v6 v7 : Value} {ms bs : List ByteArray} (h : T4 w0 g q L xb w v6 v7 ms bs) (o : Obj) : T4 w0 g q L xb (w.alloc o) v6 v7 ms bs := h.step (ba (br w) o)
theorem T4.drew {w0 : World} {g q : Nat} {L : List ByteArray} {xb : List Nat} {w : World} {v6 v7 : Value} {ms bs : List ByteArray} (h : T4 w0 g q L xb w v6 v7 ms bs) : T4 w0 g q L xb w.drew v6 v7 ms bs := h.step (bd1 (br w))
theorem T4.new {w0 : World} {g : Nat} {L : List ByteArray} {xb : List Nat} {w w' : World} {v6 v7 : Value} {ms bs : List ByteArray} (h : T3 w0 g L w v6 v7 ms bs) (k : Below w.heap.size w w') (hB : Bs w' w.heap.size xb) (hl : w.heap.size < w'.heap.size) : T4 w0 g w.heap.size L xb w' v6 v7 ms bs :=
  ⟨h.step k, fun e => by have := (h.a.lt _ e).2; omega, fun e => by have := (h.b.lt _ e).2; omega, by have := h.row.lt; omega, h.below.size, hB, hl⟩
theorem T4.set {w0 : World} {g q : Nat} {L : List ByteArray} {xb : List Nat} {w : World} {v6 v7 : Value} {ms bs : List ByteArray} (h : T4 w0 g q L xb w v6 v7 ms bs) (j v u : Nat) (hj : xb[j]? = some u) : T4 w0 g q L (xb.set j v) (w.setCell ⟨q, j, none⟩ (.int .u8 (v : Nat))) v6 v7 ms bs := by
  have hb : ∀ k, k ≠ q → (w.setCell ⟨q, j, none⟩ (.int .u8 (v : Nat))).heap[k]? = w.heap[k]? := fun k hk => Below.heap_setCell w ⟨q, j, none⟩ _ k hk
  exact ⟨⟨own_same h.t.a (fun k hk => hb k (fun e => h.aq (e ▸ hk))), own_same h.t.b (fun k hk => hb k (fun e => h.bq (e ▸ hk))), h.t.ab, h.t.ag, h.t.bg, h.t.row.far (p := ⟨q, j, none⟩) (fun e => h.gq e.symm) _, Mem.bs h.t.below (p := ⟨q, j, none⟩) h.qB _⟩,
    h.aq, h.bq, h.gq, h.qB, h.x.set j v u hj, by rw [World.size_setCell]; exact h.ql⟩
theorem Row.same {g : Nat} {L : List ByteArray} {w w' : World} (h : Row g L w) (hb : w'.heap[g]? = w.heap[g]?) : Row g L w' := by
  obtain ⟨cur, h1, h2⟩ := h; exact ⟨cur, hb.trans h1, h2⟩
theorem bs_same {w w' : World} {b : Nat} {l : List Nat} (h : Bs w b l) (hb : w'.heap[b]? = w.heap[b]?) : Bs w' b l := fun i v hv => by
  have := h i v hv
  exact ⟨(World.cell?_of_block (a := ⟨b, i, none⟩) hb).trans this.1, (World.frozen?_of_block (a := ⟨b, i, none⟩) hb).trans this.2⟩
theorem bgrown {a b c : World} {row : Option Nat} (h : Below a.heap.size a b) (k : b.grownBy c row) (hr : ∀ q, row = some q → a.heap.size ≤ q) : Below a.heap.size a c :=
  ⟨k.os.trans h.os, k.tape.trans h.tape, k.output.trans h.output, Nat.le_trans h.size k.size, fun i hi => (k.block i (Nat.lt_of_lt_of_le hi h.size) (fun e => by have := hr i e.symm; omega)).trans (h.block i hi)⟩
theorem T4.push6 {w0 : World} {g q : Nat} {L : List ByteArray} {xb : List Nat} {w w2 : World} {v6 v7 : Value} {ms bs : List ByteArray} {p cap n : Nat} {s : ByteArray} (h : T4 w0 g q L xb w v6 v7 ms bs) (hn : n = ms.length + 1)
    (hown : w2.ownsRow w0.heap.size 9 1 (.slice (some ⟨p, 0, none⟩) n cap) n (ms.map Value.string ++ [.string s])) (hgrow : w.grownBy w2 v6.ownBlock) (hat : v6.ownBlock = some p ∨ p = w.heap.size) :
    T4 w0 g q L xb w2 (.slice (some ⟨p, 0, none⟩) n cap) v7 (ms ++ [s]) bs := by
  subst hn
  have hne : ∀ k, k < w.heap.size → v6.ownBlock ≠ some k → p ≠ k := fun k hk h6 e => by
    rcases hat with h1 | h1
    · exact h6 (e ▸ h1)
    · omega
  have hgl := h.t.row.lt
  refine ⟨⟨?_, own_same h.t.b (fun k hk => hgrow.block k (h.t.b.lt k hk).2 (fun e => h.t.ab k e.symm hk)), fun k hk e => ?_, fun e => ?_, h.t.bg, h.t.row.same (hgrow.block g hgl (fun e => h.t.ag e.symm)), bgrown h.t.below hgrow (fun k hk => (h.t.a.lt k hk).1)⟩,
    fun e => ?_, h.bq, h.gq, h.qB, bs_same h.x (hgrow.block q h.ql (fun e => h.aq e.symm)), Nat.lt_of_lt_of_le h.ql hgrow.size⟩
  · rw [List.length_append, List.map_append]; exact hown
  · have hkp : p = k := by simpa [Value.ownBlock] using hk
    exact hne k (h.t.b.lt k e).2 (fun e6 => h.t.ab k e6 e) hkp
  · exact hne g hgl h.t.ag (by simpa [Value.ownBlock] using e)
  · exact hne q h.ql h.aq (by simpa [Value.ownBlock] using e)
theorem T4.push7 {w0 : World} {g q : Nat} {L : List ByteArray} {xb : List Nat} {w w2 : World} {v6 v7 : Value} {ms bs : List ByteArray} {p cap n : Nat} {s : ByteArray} (h : T4 w0 g q L xb w v6 v7 ms bs) (hn : n = bs.length + 1)
    (hown : w2.ownsRow w0.heap.size 9 1 (.slice (some ⟨p, 0, none⟩) n cap) n (bs.map Value.string ++ [.string s])) (hgrow : w.grownBy w2 v7.ownBlock) (hat : v7.ownBlock = some p ∨ p = w.heap.size) :
    T4 w0 g q L xb w2 v6 (.slice (some ⟨p, 0, none⟩) n cap) ms (bs ++ [s]) := by
  subst hn
  have hne : ∀ k, k < w.heap.size → v7.ownBlock ≠ some k → p ≠ k := fun k hk h6 e => by
    rcases hat with h1 | h1
    · exact h6 (e ▸ h1)
    · omega
  have hgl := h.t.row.lt
  refine ⟨⟨own_same h.t.a (fun k hk => hgrow.block k (h.t.a.lt k hk).2 (fun e => h.t.ab k hk e.symm)), ?_, fun k hk e => ?_, h.t.ag, fun e => ?_, h.t.row.same (hgrow.block g hgl (fun e => h.t.bg e.symm)), bgrown h.t.below hgrow (fun k hk => (h.t.b.lt k hk).1)⟩,
    h.aq, fun e => ?_, h.gq, h.qB, bs_same h.x (hgrow.block q h.ql (fun e => h.bq e.symm)), Nat.lt_of_lt_of_le h.ql hgrow.size⟩
  · rw [List.length_append, List.map_append]; exact hown
  · have hkp : p = k := by simpa [Value.ownBlock] using e
    exact hne k (h.t.a.lt k hk).2 (fun e7 => h.t.ab k hk e7) hkp
  · exact hne g hgl h.t.bg (by simpa [Value.ownBlock] using e)
  · exact hne q h.ql h.bq (by simpa [Value.ownBlock] using e)
/-- What a text cut and filled up is. -/
theorem T4.conv {w0 : World} {g q : Nat} {L : List ByteArray} {xb : List Nat} {w : World} {v6 v7 : Value} {ms bs : List ByteArray} (h : T4 w0 g q L xb w v6 v7 ms bs) (hx : ∀ z ∈ xb, z < 256) (cap n : Nat) (t : ByteArray) (ht : t = txt xb) (hn : n = t.size) :
    (convert 41 9 (.slice (some ⟨q, 0, none⟩) n cap)).run Try.prog w = .ok (.string t) w := by
  subst ht; subst hn
  exact run_convert_whole (P := Try.prog) w 41 5 9 (by kernel_rfl) (by kernel_rfl) (by kernel_rfl) q 0 (txt xb) (h.x.bytes hx) cap
theorem own_shape {w : World} {B : Nat} {T : TypeId} {a : Option Addr} {n c : Nat} {L : List ByteArray} (h : w.ownsRow B T 1 (.slice a n c) L.length (L.map Value.string)) :
    n = L.length ∧ L.length ≤ c ∧ c ≤ 9223372036854775807 ∧ Strs w a L ∧ ∀ x, a = some x → x.block < w.heap.size := by
  obtain ⟨a', c', e, h1, h2, h3, h4⟩ := own_strs h
  injection e with e1 e2 e3
  subst e1; subst e3
  exact ⟨e2, h1, h2, h3, h4⟩
theorem news1 {w : World} {b : Nat} {u : Value} (h : w.cell? ⟨b, 0, none⟩ = some u) : ∀ (j : Nat) (x : Value), [u][j]? = some x → w.cell? ((⟨b, 0, none⟩ : Addr).add j) = some x := by
  intro j x hx
  cases j with
  | zero => simp at hx; subst hx; exact h
  | succ j => simp at hx
theorem one_cell (s : ByteArray) : ∀ u ∈ [Value.string s], u.oneCell' = true := by intro u hu; simp at hu; subst hu; rfl
/-- A cell that was no part of the row that has grown. -/
theorem far_cell {w w' : World} {v : Value} (h : w.grownBy w' v.ownBlock) {b i : Nat} (hb : b < w.heap.size) (hv : v.ownBlock ≠ some b) : w'.cell? ⟨b, i, none⟩ = w.cell? ⟨b, i, none⟩ :=
  World.cell?_of_block (a := ⟨b, i, none⟩) (h.block b hb (fun e => hv e.symm))
theorem own_ne {w : World} {B : Nat} {T : TypeId} {v : Value} {n : Nat} {xs : List Value} (h : w.ownsRow B T 1 v n xs) {b : Nat} (hb : w.heap.size ≤ b) : v.ownBlock ≠ some b := fun e => by have := (h.lt b e).2; omega
end Go.Proofs.Ytgojbngdncligaa.Syn
