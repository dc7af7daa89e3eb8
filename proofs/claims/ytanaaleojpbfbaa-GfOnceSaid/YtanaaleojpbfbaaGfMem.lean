/- A gf.Field in memory: its cells, read and written. -/
import Derived.Test.YtanaaleojpbfbaaMem
namespace Go.Proofs.Ytanaaleojpbfbaa.Gf
open Go.RowKit Go.Proofs.Ytanaaleojpbfbaa.Mem

/-- The cells of a field: done, the lock's word, its sema, how often made, the logarithms, the powers. -/
def cellsL (d s m : Int) (logs exps : List Int) : List Value := [.int .u32 d, .int .i32 s, .int .u32 0, .int .i64 m] ++ (logs.map (Value.int .i64) ++ exps.map (Value.int .u8))
def fcells (d s m : Int) (logs exps : List Int) : Array Value := (cellsL d s m logs exps).toArray

theorem cells_log (d s m : Int) (logs exps : List Int) (i : Nat) (h : i < logs.length) : (fcells d s m logs exps)[4 + i]? = some (.int .i64 (logs.getD i 0)) := by
  unfold fcells cellsL
  rw [List.getElem?_toArray, List.getElem?_append_right (by simp), List.getElem?_append_left (by simp; omega)]
  simp [List.getD_eq_getElem?_getD, List.getElem?_eq_getElem h]
theorem cells_exp (d s m : Int) (logs exps : List Int) (hl : logs.length = 256) (i : Nat) (h : i < exps.length) : (fcells d s m logs exps)[260 + i]? = some (.int .u8 (exps.getD i 0)) := by
  unfold fcells cellsL
  rw [List.getElem?_toArray, List.getElem?_append_right (by simp only [List.length_cons, List.length_nil]; omega), List.getElem?_append_right (by simp; omega)]
  simp [hl, List.getD_eq_getElem?_getD, show 260 + i - 4 - 256 = i by omega, List.getElem?_eq_getElem h]
theorem set_log (d s m : Int) (logs exps : List Int) (i : Nat) (h : i < logs.length) (x : Int) : (fcells d s m logs exps).setIfInBounds (4 + i) (.int .i64 x) = fcells d s m (logs.set i x) exps := by
  unfold fcells cellsL
  simp only [List.setIfInBounds_toArray]
  rw [List.set_append_right _ _ (by simp), List.set_append_left _ _ (by simp; omega)]
  simp [List.map_set]
theorem set_exp (d s m : Int) (logs exps : List Int) (hl : logs.length = 256) (i : Nat) (x : Int) : (fcells d s m logs exps).setIfInBounds (260 + i) (.int .u8 x) = fcells d s m logs (exps.set i x) := by
  unfold fcells cellsL
  simp only [List.setIfInBounds_toArray]
  rw [List.set_append_right _ _ (by simp only [List.length_cons, List.length_nil]; omega), List.set_append_right _ _ (by simp; omega)]
  simp [hl, List.map_set, show 260 + i - 4 - 256 = i by omega]
theorem set_made (d s m : Int) (logs exps : List Int) (x : Int) : (fcells d s m logs exps).setIfInBounds 3 (.int .i64 x) = fcells d s x logs exps := by
  unfold fcells cellsL; simp
theorem set_done (d s m : Int) (logs exps : List Int) (x : Int) : (fcells d s m logs exps).setIfInBounds 0 (.int .u32 x) = fcells x s m logs exps := by
  unfold fcells cellsL; simp
theorem set_lock (d s m : Int) (logs exps : List Int) (x : Int) : (fcells d s m logs exps).setIfInBounds 1 (.int .i32 x) = fcells d x m logs exps := by
  unfold fcells cellsL; simp
theorem cells_done (d s m : Int) (logs exps : List Int) : (fcells d s m logs exps)[0]? = some (.int .u32 d) := by unfold fcells cellsL; simp
theorem cells_lock (d s m : Int) (logs exps : List Int) : (fcells d s m logs exps)[1]? = some (.int .i32 s) := by unfold fcells cellsL; simp
theorem cells_made (d s m : Int) (logs exps : List Int) : (fcells d s m logs exps)[3]? = some (.int .i64 m) := by unfold fcells cellsL; simp

end Go.Proofs.Ytanaaleojpbfbaa.Gf
