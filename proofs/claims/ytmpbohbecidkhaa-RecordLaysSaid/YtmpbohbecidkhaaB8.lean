/- Bytes made, and read as a string. -/
import Derived.Test.YtmpbohbecidkhaaCrcSlow
import Derived.RegionTactic
import Derived.Laws.IdiomStrings
import Derived.Laws.MakeOwn
namespace Go.Proofs.Ytmpbohbecidkhaa.B8
open Go.RowKit Go.Proofs.Ytmpbohbecidkhaa.Mem Go.Proofs.Ytmpbohbecidkhaa.CrcS
open Go.Proofs.YtmpbohbecidkhaaW.PrintWords hiding bt
set_option linter.unusedVariables false
set_option linter.unusedSimpArgs false

def bytes (l : List UInt8) : ByteArray := ⟨l.toArray⟩
def cells8 (l : List UInt8) : Array Value := (l.map fun b => Value.int .u8 (b.toNat : Int)).toArray
theorem conv8 (W : World) (b : Nat) (l : List UInt8) (n c : Nat) (hn : l.length = n) (h : Blk W b (cells8 l) 5) : (convert 48 9 (.slice (some ⟨b, 0, none⟩) n c)).run Try.prog W = .ok (.string (bytes l)) W := by
  have h := run_convert_bytes_back (P := Try.prog) W 48 9 5 ⟨b, 0, none⟩ c l (by kernel_rfl) (by kernel_rfl) (by kernel_rfl) (fun j hj => by
    rw [Addr.add_mid, Nat.zero_add, h.cell]
    unfold cells8
    rw [List.getElem?_toArray, List.getElem?_map, List.getElem?_eq_getElem hj]; rfl)
  rw [hn] at h
  exact h
theorem made8 (W : World) (N : Nat) (hN : N ≤ 100000) : (Instr.makeSlice 48 (.int .i64 (N : Nat)) (.int .i64 (N : Nat))).run Try.prog W = .ok (.slice (some ⟨W.heap.size, 0, none⟩) N N) (W.alloc (.cells (cells8 (List.replicate N 0)) 5)) := by
  obtain ⟨info, hinfo, hz, hsz, hby⟩ : ∃ i, Try.prog.info? 5 = some i ∧ i.zero = some (.int .u8 0) ∧ i.size = 1 ∧ i.bytes = 1 := by
    have h : (Try.prog.info? 5).map (fun i => (i.zero, i.size, i.bytes)) = some (some (.int .u8 0), 1, 1) := by kernel_rfl
    cases hq : Try.prog.info? 5 with
    | none => rw [hq] at h; simp at h
    | some i =>
      rw [hq] at h
      simp at h
      exact ⟨i, rfl, h.1, h.2.1, h.2.2⟩
  have h := run_makeSlice (P := Try.prog) W 48 5 info (.int .u8 0) (by kernel_rfl) hinfo hz .i64 .i64 N N (by omega) (by omega) (by rw [hsz]; omega) (by rw [hby]; omega) (by omega)
  rw [hsz, Int.toNat_natCast, Nat.mul_one] at h
  have e : madeCells (Value.int .u8 0).cells N = cells8 (List.replicate N 0) := by
    apply Array.ext
    · rw [size_madeCells]; unfold cells8; simp
    · intro i h1 h2
      have e : (Value.int IntKind.u8 0).cells = #[.int .u8 0] := rfl
      unfold cells8
      simp only [madeCells, e, Array.getElem_map, List.map_replicate, List.getElem_toArray, List.getElem_replicate]
      simp [Nat.mod_one]
  rw [e] at h
  exact h
/-- A string whose bytes these are. -/
def bts (l : List Nat) : ByteArray := bytes (l.map UInt8.ofNat)
theorem bts_size (l : List Nat) : (bts l).size = l.length := by unfold bts bytes; simp [ByteArray.size]
theorem by8_bts (l : List Nat) (h : ∀ b ∈ l, b < 256) : by8 (bts l) = l := by
  unfold by8 bts bytes
  simp only [List.toList_toArray, List.map_map]
  conv => rhs; rw [← List.map_id l]
  exact List.map_congr_left fun b hb => by simp [Nat.mod_eq_of_lt (h b hb)]
theorem bts_by8 (s : ByteArray) : bts (by8 s) = s := by
  obtain ⟨⟨l⟩⟩ := s
  unfold by8 bts bytes
  simp only [List.map_map]
  rw [show (UInt8.ofNat ∘ UInt8.toNat) = id from funext fun x => by simp]
  simp
theorem by8_inj {s t : ByteArray} (h : by8 s = by8 t) : s = t := by rw [← bts_by8 s, ← bts_by8 t, h]
theorem by8_app (s t : ByteArray) : by8 (s ++ t) = by8 s ++ by8 t := by unfold by8; rw [ByteArray.data_append, Array.toList_append, List.map_append]
theorem bts_app (l m : List Nat) : bts (l ++ m) = bts l ++ bts m := by
  apply by8_inj
  rw [by8_app]
  unfold by8 bts bytes
  simp
theorem cells8_nat (l : List Nat) (h : ∀ b ∈ l, b < 256) : cells8 (l.map UInt8.ofNat) = (l.map fun (b : Nat) => Value.int .u8 (b : Int)).toArray := by
  unfold cells8
  rw [List.map_map]
  congr 1
  exact List.map_congr_left fun b hb => by simp [Nat.mod_eq_of_lt (h b hb)]
end Go.Proofs.Ytmpbohbecidkhaa.B8
