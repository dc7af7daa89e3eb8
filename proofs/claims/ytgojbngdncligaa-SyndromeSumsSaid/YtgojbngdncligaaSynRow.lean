/- Columns in a row of the call's own: read, written. -/
import Derived.Test.YtgojbngdncligaaSynAlg
import Derived.Test.YtgojbngdncligaaBytes
namespace Go.Proofs.Ytgojbngdncligaa.Syn
open Go.RowKit Go.Proofs.Ytgojbngdncligaa.Mem Go.Proofs.Ytgojbngdncligaa.Bulk
set_option linter.unusedVariables false
set_option linter.unusedSimpArgs false

/-- The columns in their row. -/
def Row (g : Nat) (L : List ByteArray) (w : World) : Prop := ∃ cur : Array Value, Blk w g cur 9 ∧ ∀ (i : Nat) (s : ByteArray), L[i]? = some s → cur[i]? = some (Value.string s)
theorem Row.cell {g : Nat} {L : List ByteArray} {w : World} (h : Row g L w) {i : Nat} {s : ByteArray} (hs : L[i]? = some s) : w.cell? ⟨g, i, none⟩ = some (.string s) := by
  obtain ⟨cur, h1, h2⟩ := h; rw [h1.cell]; exact h2 i s hs
theorem Row.frozen {g : Nat} {L : List ByteArray} {w : World} (h : Row g L w) (i : Nat) : w.frozen? ⟨g, i, none⟩ = false := by obtain ⟨cur, h1, _⟩ := h; exact h1.frozen i
theorem Row.lt {g : Nat} {L : List ByteArray} {w : World} (h : Row g L w) : g < w.heap.size := by obtain ⟨cur, h1, _⟩ := h; exact h1.lt
theorem Row.step {g : Nat} {L : List ByteArray} {w w' : World} (h : Row g L w) (k : Below w.heap.size w w') : Row g L w' := by
  obtain ⟨cur, h1, h2⟩ := h; exact ⟨cur, h1.below k h1.lt, h2⟩
theorem Row.set {g : Nat} {L : List ByteArray} {w : World} (h : Row g L w) (i : Nat) (hi : i < L.length) (t : ByteArray) : Row g (L.set i t) (w.setCell ⟨g, i, none⟩ (.string t)) := by
  obtain ⟨cur, h1, h2⟩ := h
  refine ⟨_, h1.set i _, fun j s hs => ?_⟩
  have hic : i < cur.size := by
    have := h2 i _ (List.getElem?_eq_getElem hi)
    exact (Array.getElem?_eq_some_iff.1 this).1
  by_cases hj : i = j
  · subst hj
    rw [List.getElem?_set_self hi] at hs
    rw [Array.getElem?_setIfInBounds_self_of_lt hic]
    rw [← Option.some.inj hs]
  · rw [List.getElem?_set_ne hj] at hs
    rw [Array.getElem?_setIfInBounds_ne hj]
    exact h2 j s hs
theorem Row.strs {g : Nat} {L : List ByteArray} {w : World} (h : Row g L w) : Strs w (some ⟨g, 0, none⟩) L := fun i s hs => by
  refine ⟨_, rfl, ?_⟩
  unfold Addr.add
  split
  · rename_i h0; subst h0; exact h.cell hs
  · rw [Nat.zero_add]; exact h.cell hs
theorem Row.of_own {w : World} {B : Nat} {v : Value} {L : List ByteArray} (h : w.ownsRow B 9 1 v L.length (L.map Value.string)) (h0 : 0 < L.length) :
    ∃ g c, v = .slice (some ⟨g, 0, none⟩) L.length c ∧ L.length ≤ c ∧ c ≤ 9223372036854775807 ∧ B ≤ g ∧ Row g L w := by
  rcases h.2 with ⟨hv, h1⟩ | ⟨g, cap, cur, hv, hBg, hg, hnc, hcm, hcs, htk⟩
  · omega
  · refine ⟨g, cap, hv, hnc, by unfold maxLen at hcm; omega, hBg, cur, hg, fun i s hs => ?_⟩
    have hi := (List.getElem?_eq_some_iff.1 hs).1
    have h2 : (L.map Value.string)[i]? = some (.string s) := by rw [List.getElem?_map, hs]; rfl
    rw [← htk, List.getElem?_take] at h2
    split at h2
    · simpa using h2
    · cases h2
theorem Row.far {g : Nat} {L : List ByteArray} {w : World} (h : Row g L w) {p : Addr} (hp : p.block ≠ g) (v : Value) : Row g L (w.setCell p v) := by
  obtain ⟨cur, h1, h2⟩ := h; exact ⟨cur, h1.setOther hp v, h2⟩
end Go.Proofs.Ytgojbngdncligaa.Syn
