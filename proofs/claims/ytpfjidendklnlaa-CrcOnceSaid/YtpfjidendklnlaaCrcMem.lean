/- A crc.Table in memory: its cells, read and written. -/
import Derived.Test.YtpfjidendklnlaaMany
namespace Go.Proofs.Ytpfjidendklnlaa.Crc
open Go.RowKit Go.Proofs.Ytpfjidendklnlaa.Mem

/-- The cells of a table: done, the lock's word, its sema, how often made, the bytes, the gaps. -/
def tcellsL (d s m : Int) (B G : List Int) : List Value := [.int .u32 d, .int .i32 s, .int .u32 0, .int .i64 m] ++ (B.map (Value.int .u32) ++ G.map (Value.int .u32))
def tcells (d s m : Int) (B G : List Int) : Array Value := (tcellsL d s m B G).toArray

theorem tcells_size (d s m : Int) (B G : List Int) : (tcells d s m B G).size = 4 + B.length + G.length := by simp [tcells, tcellsL]; omega
theorem cells_byte (d s m : Int) (B G : List Int) (i : Nat) (h : i < B.length) : (tcells d s m B G)[4 + i]? = some (.int .u32 (B.getD i 0)) := by
  unfold tcells tcellsL
  rw [List.getElem?_toArray, List.getElem?_append_right (by simp), List.getElem?_append_left (by simp; omega)]
  simp [List.getD_eq_getElem?_getD, List.getElem?_eq_getElem h]
theorem cells_gap (d s m : Int) (B G : List Int) (hl : B.length = 256) (i : Nat) (h : i < G.length) : (tcells d s m B G)[260 + i]? = some (.int .u32 (G.getD i 0)) := by
  unfold tcells tcellsL
  rw [List.getElem?_toArray, List.getElem?_append_right (by simp only [List.length_cons, List.length_nil]; omega), List.getElem?_append_right (by simp; omega)]
  simp [hl, List.getD_eq_getElem?_getD, show 260 + i - 4 - 256 = i by omega, List.getElem?_eq_getElem h]
theorem set_byte (d s m : Int) (B G : List Int) (i : Nat) (h : i < B.length) (x : Int) : (tcells d s m B G).setIfInBounds (4 + i) (.int .u32 x) = tcells d s m (B.set i x) G := by
  unfold tcells tcellsL
  simp only [List.setIfInBounds_toArray]
  rw [List.set_append_right _ _ (by simp), List.set_append_left _ _ (by simp; omega)]
  simp [List.map_set]
theorem set_gap (d s m : Int) (B G : List Int) (hl : B.length = 256) (i : Nat) (x : Int) : (tcells d s m B G).setIfInBounds (260 + i) (.int .u32 x) = tcells d s m B (G.set i x) := by
  unfold tcells tcellsL
  simp only [List.setIfInBounds_toArray]
  rw [List.set_append_right _ _ (by simp only [List.length_cons, List.length_nil]; omega), List.set_append_right _ _ (by simp; omega)]
  simp [hl, List.map_set, show 260 + i - 4 - 256 = i by omega]
theorem set_made (d s m : Int) (B G : List Int) (x : Int) : (tcells d s m B G).setIfInBounds 3 (.int .i64 x) = tcells d s x B G := by
  unfold tcells tcellsL; simp
theorem set_done (d s m : Int) (B G : List Int) (x : Int) : (tcells d s m B G).setIfInBounds 0 (.int .u32 x) = tcells x s m B G := by
  unfold tcells tcellsL; simp
theorem set_lock (d s m : Int) (B G : List Int) (x : Int) : (tcells d s m B G).setIfInBounds 1 (.int .i32 x) = tcells d x m B G := by
  unfold tcells tcellsL; simp
theorem cells_done (d s m : Int) (B G : List Int) : (tcells d s m B G)[0]? = some (.int .u32 d) := by unfold tcells tcellsL; simp
theorem cells_lock (d s m : Int) (B G : List Int) : (tcells d s m B G)[1]? = some (.int .i32 s) := by unfold tcells tcellsL; simp
theorem cells_made (d s m : Int) (B G : List Int) : (tcells d s m B G)[3]? = some (.int .i64 m) := by unfold tcells tcellsL; simp
/-- A row of gaps written. -/
def setRow (G : List Int) (i : Nat) : List Int → List Int
  | [] => G
  | x :: r => setRow (G.set i x) (i + 1) r
theorem put_gaps (d s m : Int) (B : List Int) (hl : B.length = 256) : ∀ (xs G : List Int) (i : Nat), putAll (tcells d s m B G) (260 + i) (xs.map (Value.int .u32)) = tcells d s m B (setRow G i xs)
  | [], _, _ => rfl
  | x :: r, G, i => by
    rw [List.map_cons, putAll, set_gap _ _ _ _ _ hl, show 260 + i + 1 = 260 + (i + 1) by omega, put_gaps d s m B hl r, setRow]
theorem setRow_at : ∀ (xs G : List Int) (i j : Nat), i + xs.length ≤ G.length → (setRow G i xs)[j]? = if i ≤ j ∧ j < i + xs.length then xs[j - i]? else G[j]?
  | [], G, i, j, _ => by rw [if_neg (by simp only [List.length_nil]; omega)]; rfl
  | x :: r, G, i, j, h => by
    simp only [List.length_cons] at h
    rw [setRow, setRow_at r _ _ _ (by simp; omega)]
    by_cases h1 : i + 1 ≤ j ∧ j < i + 1 + r.length
    · rw [if_pos h1, if_pos (by simp only [List.length_cons]; omega), show j - i = (j - (i + 1)) + 1 by omega, List.getElem?_cons_succ]
    · rw [if_neg h1]
      by_cases h2 : j = i
      · subst h2
        rw [if_pos (by simp only [List.length_cons]; omega), Nat.sub_self, List.getElem?_cons_zero, List.getElem?_set_self (by omega)]
      · rw [if_neg (by simp only [List.length_cons]; omega), List.getElem?_set_ne (by omega)]
theorem setRow_length : ∀ (xs G : List Int) (i : Nat), (setRow G i xs).length = G.length
  | [], _, _ => rfl
  | x :: r, G, i => by rw [setRow, setRow_length r]; simp
end Go.Proofs.Ytpfjidendklnlaa.Crc
