/- A strings.Builder's WriteByte and WriteString, laid out of the shelf's contracts. -/
import Derived.Test.YtmpbohbecidkhaaShelf
namespace Go.Proofs.Ytmpbohbecidkhaa.Bld
open Go.Shelf Go.RowKit
set_option linter.unusedVariables false

def bren : Go.Shelf.Ren := ⟨fun | 167 => 75 | n => Try.lays105_ren.f n, Try.lays105_ren.t, Try.lays105_ren.g⟩
theorem lays167 : Go.Proofs.Lays.n167 Try.prog bren := {
  mixed := Try.lays105.mixed
  f167 := Try.func75.trans (congrArg some (by kernel_rfl))
  f240 := Try.func87.trans (congrArg some (by kernel_rfl))
  f276 := Try.func99.trans (congrArg some (by kernel_rfl))
  t0 := Try.lays105.t0
  a0 := Try.lays105.a0
  z0 := Try.lays105.z0
  v0 := Try.lays105.v0
  t4 := Try.lays105.t4
  a4 := Try.lays105.a4
  z4 := Try.lays105.z4
  v4 := Try.lays105.v4
  t5 := Try.lays105.t5
  a5 := Try.lays105.a5
  z5 := Try.lays105.z5
  v5 := Try.lays105.v5
  t9 := Try.lays105.t9
  a9 := Try.lays105.a9
  z9 := Try.lays105.z9
  v9 := Try.lays105.v9
  t20 := Try.lays105.t20
  a20 := Try.lays105.a20
  z20 := Try.lays105.z20
  v20 := Try.lays105.v20
  t37 := Try.lays105.t37
  a37 := Try.lays105.a37
  z37 := Try.lays105.z37
  v37 := Try.lays105.v37
  t70 := Try.lays105.t70
  a70 := Try.lays105.a70
  z70 := Try.lays105.z70
  v70 := Try.lays105.v70
  t72 := Try.lays105.t72
  a72 := Try.lays105.a72
  z72 := Try.lays105.z72
  v72 := Try.lays105.v72
  t75 := Try.lays105.t75
  a75 := Try.lays105.a75
  z75 := Try.lays105.z75
  v75 := Try.lays105.v75
  t164 := Try.lays105.t164
  a164 := Try.lays105.a164
  z164 := Try.lays105.z164
  v164 := Try.lays105.v164 }
theorem extra : Builder.Extra Try.prog bren := {
  sizeBuilder := by kernel_rfl
  liesBuilder := by kernel_rfl
  t5 := Try.lays105.t5
  a5 := Try.lays105.a5
  z5 := Try.lays105.z5
  v5 := Try.lays105.v5
  infoByte := by kernel_rfl
  cellsByte := by kernel_rfl
  sizeByte := by kernel_rfl
  neB5 := by decide }
/-- A builder of type strings.Builder that holds these bytes. -/
def Bu (B b : Nat) (l : List UInt8) (w : World) : Prop := Lib.IsBuilder 127 5 B b (Lib.byteCells l) w
theorem byte_calls (B b : Nat) (l : List UInt8) (c : UInt8) (w : World) (h : Bu B b l w) (hl : l.length < 100000) (hB : B ≤ w.heap.size) :
    Calls Try.prog 75 #[.pointer (some ⟨b, 0, none⟩), .int .u8 (c.toNat : Int)] w fun e w' => e = .returned .nilIface ∧ Bu B b (l ++ [c]) w' ∧ Below B w w' := by
  refine (Any.Builder_WriteByte lays167 extra B b (Lib.byteCells l) (c.toNat : Int) w h (by rw [Lib.byteCells_length]; omega) hB).mono ?_
  rintro e w' ⟨rfl, h1, h2⟩
  refine ⟨rfl, ?_, h2⟩
  have e : Lib.byteCells (l ++ [c]) = Lib.byteCells l ++ [.int .u8 (c.toNat : Int)] := by unfold Lib.byteCells; rw [List.map_append]; rfl
  unfold Bu
  rw [e]
  exact .inr h1
theorem str_calls (B b : Nat) (l : List UInt8) (s : ByteArray) (w : World) (h : Bu B b l w) (hl : l.length < 100000) (hs : s.size < 100000) (hB : B ≤ w.heap.size) :
    Calls Try.prog 64 #[.pointer (some ⟨b, 0, none⟩), .string s] w fun e w' => e = .returned (.tuple #[.int .i64 s.size, .nilIface]) ∧ Bu B b (l ++ s.data.toList) w' ∧ Below B w w' := by
  refine (Any.Builder_WriteString { Try.lays105 with } Try.Builder_Extra_105 B b (Lib.byteCells l) s w h (by rw [Lib.byteCells_length]; omega) hB).mono ?_
  rintro e w' ⟨rfl, h1, h2⟩
  refine ⟨rfl, ?_, h2⟩
  have e : Lib.byteCells (l ++ s.data.toList) = Lib.byteCells l ++ Lib.strCells s := by unfold Lib.byteCells Lib.strCells; rw [List.map_append]
  unfold Bu
  rw [e]
  exact .inr h1
theorem string_calls (B b : Nat) (l : List UInt8) (w : World) (h : Bu B b l w) (hB : B ≤ w.heap.size) :
    Calls Try.prog 66 #[.pointer (some ⟨b, 0, none⟩)] w fun e w' => e = .returned (.string ⟨l.toArray⟩) ∧ Below B w w' := Try.Builder_String_any B b l w h hB
theorem len_calls (B b : Nat) (l : List UInt8) (w : World) (h : Bu B b l w) :
    Calls Try.prog 76 #[.pointer (some ⟨b, 0, none⟩)] w fun e w' => e = .returned (.int .i64 l.length) ∧ w' = w := by
  have := Try.Builder_Len B b (Lib.byteCells l) w h
  rw [Lib.byteCells_length] at this
  exact this
theorem new_bu (w : World) : Bu w.heap.size w.heap.size [] (w.alloc (.cells #[.pointer none, .slice none 0 0] 127)) := Lib.fresh_isBuilder _ _ w
end Go.Proofs.Ytmpbohbecidkhaa.Bld
