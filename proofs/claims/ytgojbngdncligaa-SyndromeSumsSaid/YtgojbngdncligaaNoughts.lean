/- bulk.Noughts walked, over the shelf's contract of strings.Repeat. -/
import Derived.Test.YtgojbngdncligaaBulk
import Derived.Test.YtgojbngdncligaaShelf
namespace Go.Proofs.Ytgojbngdncligaa.Bulk
open Go.RowKit Go.Proofs.Ytgojbngdncligaa.Mem Go.Proofs.Ytgojbngdncligaa.Lanes
set_option linter.unusedVariables false
set_option linter.unusedSimpArgs false

def noughts (n : Nat) : ByteArray := txt (List.replicate n 0)
theorem repeat_nought (c : Nat) : (⟨(Lib.repeatL (⟨#[0]⟩ : ByteArray).data.toList c).toArray⟩ : ByteArray) = noughts c := by
  unfold noughts txt
  congr 2
  induction c with
  | zero => rfl
  | succ c ih =>
    show (0 : UInt8) :: Lib.repeatL _ c = _
    rw [List.replicate_succ, List.map_cons]
    congr 1

theorem noughts_calls (n : Int) (w : World) :
    Calls Try.prog 24 #[.int .i64 n] w fun e w' => e = .returned (.string (noughts (max 0 (min n 65536)).toNat)) ∧ Below w.heap.size w w' := by
  go_enter Try.func24, Try.ntmps24
  go_wp2_with fail
  obtain ⟨c, hc⟩ : ∃ c : Nat, max 0 (min n 65536) = (c : Int) := ⟨(max 0 (min n 65536)).toNat, by omega⟩
  have hc6 : c ≤ 65536 := by omega
  rw [hc]
  refine (Try.strings_Repeat ⟨#[0]⟩ c _ (by omega) (by show 1 * c ≤ _; omega)).mono ?_
  rw [repeat_nought]
  rintro e w1 ⟨rfl, b1⟩
  have e1 : (max 0 (min n 65536)).toNat = c := by omega
  go_wp2
  go_ret
  exact ⟨by rw [e1]; rfl, b1⟩
end Go.Proofs.Ytgojbngdncligaa.Bulk
