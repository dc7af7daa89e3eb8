/- Rows of bytes that a conversion made: read, written, made a text again. -/
import Derived.Test.YtgojbngdncligaaLanes
import Derived.Laws.IdiomStrings
import Derived.Lib.SlBytesRow
namespace Go.Proofs.Ytgojbngdncligaa.Bts
open Go.RowKit Go.Proofs.Ytgojbngdncligaa.Mem Go.Proofs.Ytgojbngdncligaa.Lanes
open Go.Lib (Bytes run_convert_whole)
set_option linter.unusedVariables false
set_option linter.unusedSimpArgs false

/-- Bytes in a block, each to be written. -/
def Bs (w : World) (b : Nat) (l : List Nat) : Prop := ∀ i v, l[i]? = some v → w.cell? ⟨b, i, none⟩ = some (.int .u8 (v : Nat)) ∧ w.frozen? ⟨b, i, none⟩ = false
theorem Bs.set {w : World} {b : Nat} {l : List Nat} (h : Bs w b l) (j v u : Nat) (hj : l[j]? = some u) : Bs (w.setCell ⟨b, j, none⟩ (.int .u8 (v : Nat))) b (l.set j v) := by
  intro i x hx
  by_cases hij : j = i
  · subst hij
    rw [List.getElem?_set_self (List.getElem?_eq_some_iff.1 hj).1] at hx
    obtain rfl := Option.some.inj hx
    exact ⟨World.cell?_setCell_same _ _ _ (h j u hj).1, by rw [World.frozen?_setCell]; exact (h j u hj).2⟩
  · rw [List.getElem?_set_ne hij] at hx
    refine ⟨?_, by rw [World.frozen?_setCell]; exact (h i x hx).2⟩
    rw [World.cell?_setCell_other _ _ _ _ (by intro e; exact hij (by injection e))]
    exact (h i x hx).1
theorem Bs.drew {w : World} {b : Nat} {l : List Nat} (h : Bs w b l) : Bs w.drew b l := h
theorem bytes_new (w : World) (s : ByteArray) (cap : Nat) (e : TypeId) : Bs (w.drew.alloc (.cells (bytesRow s cap) e ((bytesRow s cap).size, (bytesRow s cap).size + 1))) w.heap.size (by8 s) := by
  intro i v hv
  have hi : i < s.size := by have := (List.getElem?_eq_some_iff.1 hv).1; rw [by8_length] at this; exact this
  have hh : (w.drew.alloc (.cells (bytesRow s cap) e ((bytesRow s cap).size, (bytesRow s cap).size + 1))).heap[w.heap.size]? = some (.cells (bytesRow s cap) e ((bytesRow s cap).size, (bytesRow s cap).size + 1)) := heap_alloc_new w.drew _
  have hsz : i < (bytesRow s cap).size := by unfold bytesRow; rw [Array.size_append, Array.size_map]; have : s.data.size = s.size := rfl; omega
  constructor
  · simp only [World.cell?, hh]
    have hd : i < s.data.size := hi
    have e1 : (bytesRow s cap)[i]? = some (Value.int .u8 (s.data[i].toNat)) := by
      unfold bytesRow
      rw [Array.getElem?_append_left (by rw [Array.size_map]; exact hd), Array.getElem?_map, Array.getElem?_eq_getElem hd]; rfl
    rw [e1]
    have e2 : (by8 s)[i]? = some (s.data[i].toNat) := by
      unfold by8
      rw [List.getElem?_map, Array.getElem?_toList, Array.getElem?_eq_getElem hd]; rfl
    rw [e2] at hv
    rw [Option.some.inj hv]
    rfl
  · simp only [World.frozen?, hh]
    simp; omega
theorem Bs.bytes {w : World} {b : Nat} {l : List Nat} (h : Bs w b l) (hl : ∀ x ∈ l, x < 256) : Bytes w b 0 (txt l) := by
  intro i hi
  rw [txt_size] at hi
  rw [Nat.zero_add]
  have h1 := (h i _ (List.getElem?_eq_getElem hi)).1
  rw [h1]
  have h2 : by8 (txt l) = l := txt_by8 l hl
  obtain ⟨v, _, h3, h4⟩ := by8_at (txt l) i (by rw [txt_size]; exact hi)
  rw [h2, List.getElem?_eq_getElem hi] at h4
  rw [Option.some.inj h4, ← h3 (by rw [txt_size]; exact hi)]
theorem Bs.below {w w' : World} {b B : Nat} {l : List Nat} (h : Bs w b l) (k : Below B w w') (hb : b < B) : Bs w' b l := fun i v hv => by
  have := h i v hv
  exact ⟨by rw [k.cell hb]; exact this.1, by rw [k.frozen hb]; exact this.2⟩
theorem Bs.far {w : World} {b : Nat} {l : List Nat} (h : Bs w b l) {p : Addr} (hp : p.block ≠ b) (v : Value) : Bs (w.setCell p v) b l := fun i u hu => by
  have := h i u hu
  exact ⟨(World.cell?_of_block (Below.heap_setCell w p v b (fun e => hp e.symm))).trans this.1, by rw [World.frozen?_setCell]; exact this.2⟩
end Go.Proofs.Ytgojbngdncligaa.Bts
