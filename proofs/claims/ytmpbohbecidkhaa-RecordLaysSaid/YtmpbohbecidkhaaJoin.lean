/- strings.Join, laid out of the shelf's contracts. -/
import Derived.Test.YtmpbohbecidkhaaShelf
import Derived.Test.YtmpbohbecidkhaaRecB
import Derived.Test.YtmpbohbecidkhaaB8
import Derived.Shelf.Strings.OnBuilder
namespace Go.Proofs.Ytmpbohbecidkhaa.Rec
open Go.Shelf Go.RowKit Go.Proofs.Ytmpbohbecidkhaa.B8 Go.Proofs.Ytmpbohbecidkhaa.CrcS
set_option linter.unusedVariables false

def jren : Go.Shelf.Ren := ⟨fun | 156 => 73 | n => Try.lays105_ren.f n, fun | 31 => 49 | n => Try.lays105_ren.t n, Try.lays105_ren.g⟩
theorem lays156 : Go.Proofs.Lays.n156 Try.prog jren := {
  mixed := Try.lays105.mixed
  f156 := Try.func73.trans (congrArg some (by kernel_rfl))
  f165 := Try.func79.trans (congrArg some (by kernel_rfl))
  f166 := Try.func64.trans (congrArg some (by kernel_rfl))
  f169 := Try.func66.trans (congrArg some (by kernel_rfl))
  f240 := Try.func87.trans (congrArg some (by kernel_rfl))
  f241 := Try.func95.trans (congrArg some (by kernel_rfl))
  f276 := Try.func99.trans (congrArg some (by kernel_rfl))
  f277 := Try.func102.trans (congrArg some (by kernel_rfl))
  t0 := Try.lays105.t0
  a0 := Try.lays105.a0
  z0 := Try.lays105.z0
  v0 := Try.lays105.v0
  t3 := Try.lays105.t3
  a3 := Try.lays105.a3
  z3 := Try.lays105.z3
  v3 := Try.lays105.v3
  t4 := Try.lays105.t4
  a4 := Try.lays105.a4
  z4 := Try.lays105.z4
  v4 := Try.lays105.v4
  t9 := Try.lays105.t9
  a9 := Try.lays105.a9
  z9 := Try.lays105.z9
  v9 := Try.lays105.v9
  t20 := Try.lays105.t20
  a20 := Try.lays105.a20
  z20 := Try.lays105.z20
  v20 := Try.lays105.v20
  t37 := Try.lays105.t37
  a37 := Try.lays105.a37
  z37 := Try.lays105.z37
  v37 := Try.lays105.v37
  t70 := Try.lays105.t70
  a70 := Try.lays105.a70
  z70 := Try.lays105.z70
  v70 := Try.lays105.v70
  t72 := Try.lays105.t72
  a72 := Try.lays105.a72
  z72 := Try.lays105.z72
  v72 := Try.lays105.v72
  t75 := Try.lays105.t75
  a75 := Try.lays105.a75
  z75 := Try.lays105.z75
  v75 := Try.lays105.v75
  t76 := Try.lays105.t76
  a76 := Try.lays105.a76
  z76 := Try.lays105.z76
  v76 := Try.lays105.v76
  t127 := Try.lays105.t127
  a127 := Try.lays105.a127
  z127 := Try.lays105.z127
  v127 := Try.lays105.v127
  t164 := Try.lays105.t164
  a164 := Try.lays105.a164
  z164 := Try.lays105.z164
  v164 := Try.lays105.v164
  t31 := Try.underlying49
  a31 := Try.isAgg49
  z31 := Try.sizeOf49
  v31 := Try.zeroValue49 }
theorem jextra : Builder.Extra Try.prog jren := {
  sizeBuilder := by kernel_rfl
  liesBuilder := by kernel_rfl
  t5 := Try.lays105.t5
  a5 := Try.lays105.a5
  z5 := Try.lays105.z5
  v5 := Try.lays105.v5
  infoByte := by kernel_rfl
  cellsByte := by kernel_rfl
  sizeByte := by kernel_rfl
  neB5 := by decide }
theorem joinTail_nil (r : List (List UInt8)) : Lib.joinTail [] r = r.flatten := by unfold Lib.joinTail; simp
theorem join_flat (l : List (List UInt8)) : Lib.join l [] = l.flatten := by
  cases l with
  | nil => rfl
  | cons x r => rw [Lib.join_cons, joinTail_nil, List.flatten_cons]
theorem join_bts (S : List (List Nat)) : (⟨(Lib.join ((S.map bts).map (·.data.toList)) (⟨#[]⟩ : ByteArray).data.toList).toArray⟩ : ByteArray) = bts S.flatten := by
  rw [show (⟨#[]⟩ : ByteArray).data.toList = [] from rfl, join_flat]
  unfold bts B8.bytes
  congr 2
  rw [List.map_map]
  induction S with
  | nil => rfl
  | cons s S ih => rw [List.map_cons, List.flatten_cons, List.flatten_cons, List.map_append, ih]; rfl
/-- Joined with nothing between: one behind the other. -/
theorem join_calls (g c : Nat) (S : List (List Nat)) (w : World) (hcells : ∀ (j : Nat) s, S[j]? = some s → w.cell? ⟨g, j, none⟩ = some (.string (bts s))) (hg : g < w.heap.size) (hn : S.length ≤ 1000) (hc : S.length ≤ c) (hl : S.flatten.length ≤ 100000) :
    Calls Try.prog 73 #[.slice (some ⟨g, 0, none⟩) S.length c, .string ⟨#[]⟩] w fun e w' => e = .returned (.string (bts S.flatten)) ∧ Below w.heap.size w w' := by
  have hb := join_bts S
  have hl2 : (Lib.join ((S.map bts).map (·.data.toList)) (⟨#[]⟩ : ByteArray).data.toList).length = S.flatten.length := by
    have h := congrArg ByteArray.size hb
    rw [bts_size] at h
    exact h
  have h := Any.strings_Join lays156 jextra g 0 c (S.map bts) ⟨#[]⟩ w (fun j x hx => by
    rw [List.getElem?_map] at hx
    cases hs : S[j]? with
    | none => rw [hs] at hx; cases hx
    | some s =>
      rw [hs] at hx
      rw [← Option.some.inj hx, Nat.zero_add]
      exact hcells j s hs) hg (by rw [List.length_map]; omega) (by rw [List.length_map]; exact hc) (by rw [hl2]; omega)
  rw [List.length_map, hb] at h
  exact h
end Go.Proofs.Ytmpbohbecidkhaa.Rec
