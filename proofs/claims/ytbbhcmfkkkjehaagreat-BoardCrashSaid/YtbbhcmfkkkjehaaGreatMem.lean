/- Plain facts on the model's memory: whole blocks, and what stays as it was. No program is named here. -/
import Derived.Below
import Derived.Deep.Draws
import Derived.Laws.NewBlocks
import Derived.Lib.Hide
namespace Go.Proofs.YtbbhcmfkkkjehaaGreat.Mem
open Go.RowKit

/-- A block of cells, none of them shared with a string. -/
def Blk (w : World) (b : Nat) (C : Array Value) (T : TypeId) : Prop := w.heap[b]? = some (.cells C T (0, 0))

theorem Blk.cell {w : World} {b : Nat} {C : Array Value} {T : TypeId} (h : Blk w b C T) (i : Nat) : w.cell? ⟨b, i, none⟩ = C[i]? := by
  unfold Blk at h; simp [World.cell?, h]
theorem Blk.frozen {w : World} {b : Nat} {C : Array Value} {T : TypeId} (h : Blk w b C T) (i : Nat) : w.frozen? ⟨b, i, none⟩ = false := by
  unfold Blk at h; simp [World.frozen?, h]
theorem Blk.lt {w : World} {b : Nat} {C : Array Value} {T : TypeId} (h : Blk w b C T) : b < w.heap.size := by
  unfold Blk at h
  exact (Array.getElem?_eq_some_iff.1 h).1
theorem Blk.set {w : World} {b : Nat} {C : Array Value} {T : TypeId} (h : Blk w b C T) (i : Nat) (v : Value) : Blk (w.setCell ⟨b, i, none⟩ v) b (C.setIfInBounds i v) T := by
  unfold Blk at *
  simp [World.setCell, Array.getElem?_modify, h]
theorem Blk.setOther {w : World} {b : Nat} {C : Array Value} {T : TypeId} (h : Blk w b C T) {p : Addr} (hp : p.block ≠ b) (v : Value) : Blk (w.setCell p v) b C T := by
  unfold Blk at *
  rw [Below.heap_setCell _ _ _ _ (fun e => hp e.symm)]; exact h
theorem Blk.alloc {w : World} {b : Nat} {C : Array Value} {T : TypeId} (h : Blk w b C T) (o : Obj) : Blk (w.alloc o) b C T := by
  have hl := h.lt
  unfold Blk at *
  rw [Below.heap_alloc _ _ _ hl]; exact h
theorem Blk.drew {w : World} {b : Nat} {C : Array Value} {T : TypeId} (h : Blk w b C T) : Blk w.drew b C T := h
theorem Blk.drewN {w : World} {b : Nat} {C : Array Value} {T : TypeId} (h : Blk w b C T) (n : Nat) : Blk (w.drewN n) b C T := h
theorem Blk.new (w : World) (C : Array Value) (T : TypeId) : Blk (w.alloc (.cells C T)) w.heap.size C T := by
  show (w.heap.push _)[w.heap.size]? = _
  simp

/-- What was there stays as it was, but for the blocks of S. -/
structure Keep (S : Nat → Prop) (w w' : World) : Prop where
  os : w'.os = w.os
  tape : w'.tape = w.tape
  output : w'.output = w.output
  size : w.heap.size ≤ w'.heap.size
  block : ∀ k, k < w.heap.size → ¬ S k → w'.heap[k]? = w.heap[k]?

theorem Keep.refl (S : Nat → Prop) (w : World) : Keep S w w := ⟨rfl, rfl, rfl, Nat.le_refl _, fun _ _ _ => rfl⟩
theorem Keep.trans {S : Nat → Prop} {a b c : World} (h : Keep S a b) (k : Keep S b c) : Keep S a c :=
  ⟨k.os.trans h.os, k.tape.trans h.tape, k.output.trans h.output, Nat.le_trans h.size k.size, fun i hi hs => (k.block i (Nat.lt_of_lt_of_le hi h.size) hs).trans (h.block i hi hs)⟩
theorem Keep.mono {S S' : Nat → Prop} {w w' : World} (h : Keep S w w') (hs : ∀ k, k < w.heap.size → S k → S' k) : Keep S' w w' :=
  ⟨h.os, h.tape, h.output, h.size, fun k hk hn => h.block k hk (fun hh => hn (hs k hk hh))⟩
theorem Keep.drew {S : Nat → Prop} {a w : World} (h : Keep S a w) : Keep S a w.drew := ⟨h.os, h.tape, h.output, h.size, h.block⟩
theorem Keep.drewN {S : Nat → Prop} {a w : World} (h : Keep S a w) (n : Nat) : Keep S a (w.drewN n) := ⟨h.os, h.tape, h.output, h.size, h.block⟩
theorem Keep.alloc {S : Nat → Prop} {a w : World} (h : Keep S a w) (o : Obj) : Keep S a (w.alloc o) :=
  h.trans ⟨rfl, rfl, rfl, by simp, fun k hk _ => Below.heap_alloc _ _ _ hk⟩
/-- A store into a block of S, or into one made since. -/
theorem Keep.setCell {S : Nat → Prop} {a w : World} (h : Keep S a w) {p : Addr} (hp : S p.block ∨ a.heap.size ≤ p.block) (u : Value) : Keep S a (w.setCell p u) :=
  ⟨h.os, h.tape, h.output, by simpa [World.setCell] using h.size, fun k hk hn => by
    rw [Below.heap_setCell _ _ _ _ (fun e => by subst e; rcases hp with hp | hp; exact hn hp; omega)]; exact h.block k hk hn⟩
/-- Behind a callee whose own blocks are of S, or made since. -/
theorem Keep.call {S S' : Nat → Prop} {a b c : World} (h : Keep S a b) (k : Keep S' b c) (hs : ∀ i, S' i → S i ∨ a.heap.size ≤ i) : Keep S a c :=
  ⟨k.os.trans h.os, k.tape.trans h.tape, k.output.trans h.output, Nat.le_trans h.size k.size, fun i hi hn =>
    (k.block i (Nat.lt_of_lt_of_le hi h.size) (fun hh => by rcases hs i hh with q | q; exact hn q; omega)).trans (h.block i hi hn)⟩
theorem Keep.of_below {S : Nat → Prop} {w w' : World} (h : Below w.heap.size w w') : Keep S w w' := ⟨h.os, h.tape, h.output, h.size, fun k hk _ => h.block k hk⟩
theorem Keep.below {w w' : World} {S : Nat → Prop} (h : Keep S w w') (hs : ∀ k, S k → w.heap.size ≤ k) : Below w.heap.size w w' :=
  ⟨h.os, h.tape, h.output, h.size, fun k hk => h.block k hk (fun hh => by have := hs k hh; omega)⟩
theorem Blk.keep {S : Nat → Prop} {w w' : World} {b : Nat} {C : Array Value} {T : TypeId} (h : Blk w b C T) (k : Keep S w w') (hb : ¬ S b) : Blk w' b C T := by
  have hl := h.lt
  unfold Blk at *
  rw [k.block b hl hb]; exact h
theorem Blk.below {w w' : World} {b B : Nat} {C : Array Value} {T : TypeId} (h : Blk w b C T) (k : Below B w w') (hb : b < B) : Blk w' b C T := by
  unfold Blk at *
  rw [k.block b hb]; exact h

/-- A slice of integers that came in: nil, or a row of 'cap' cells, the first 'len' of which are its elements. -/
def IsRow (k : IntKind) (w : World) (a : Option Addr) (len cap : Nat) (zs : List Int) : Prop :=
  (a = none ∧ len = 0 ∧ cap = 0 ∧ zs = []) ∨
  ∃ x, a = some x ∧ len ≤ cap ∧ cap ≤ maxLen ∧ zs.length = cap ∧ (∀ i, i < zs.length → w.cell? (x.add i) = some (.int k (zs.getD i 0))) ∧ ∀ n ∈ zs, (Lit.int k n).wf = true

/-! New blocks alone: 'Below a.heap.size a b', handed on without side conditions. -/
theorem bt {a b c : World} (h : Below a.heap.size a b) (k : Below b.heap.size b c) : Below a.heap.size a c := h.trans (k.mono h.size)
theorem ba {a b : World} (h : Below a.heap.size a b) (o : Obj) : Below a.heap.size a (b.alloc o) := h.alloc h.size o
theorem bd {a b : World} (h : Below a.heap.size a b) (n : Nat) : Below a.heap.size a (b.drewN n) := ⟨h.os, h.tape, h.output, h.size, h.block⟩
theorem bd1 {a b : World} (h : Below a.heap.size a b) : Below a.heap.size a b.drew := h.drew
theorem bs {a b : World} (h : Below a.heap.size a b) {p : Addr} (hp : a.heap.size ≤ p.block) (v : Value) : Below a.heap.size a (b.setCell p v) := h.setCell hp v
/-- Behind a call that writes one block alone, made since. -/
theorem bk {a b c : World} {B : Nat} (h : Below a.heap.size a b) (k : Keep (· = B) b c) (hB : a.heap.size ≤ B) : Below a.heap.size a c :=
  ⟨k.os.trans h.os, k.tape.trans h.tape, k.output.trans h.output, Nat.le_trans h.size k.size, fun i hi => (k.block i (Nat.lt_of_lt_of_le hi h.size) (by omega)).trans (h.block i hi)⟩
theorem wf_u8 {a : Int} (h : (Lit.int .u8 a).wf = true) : ∃ n : Nat, a = n ∧ n < 256 := by
  simp [Lit.wf, IntKind.min, IntKind.max, IntKind.signed, IntKind.bits] at h
  exact ⟨a.toNat, by omega, by omega⟩
theorem wf_u32 {a : Int} (h : (Lit.int .u32 a).wf = true) : ∃ n : Nat, a = n ∧ n < 4294967296 := by
  simp [Lit.wf, IntKind.min, IntKind.max, IntKind.signed, IntKind.bits] at h
  exact ⟨a.toNat, by omega, by omega⟩
theorem br (a : World) : Below a.heap.size a a := Below.refl _ _
end Go.Proofs.YtbbhcmfkkkjehaaGreat.Mem
