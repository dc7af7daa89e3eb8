/- The law's sector walked: a byte, and noughts behind it. -/
import Derived.Test.YtahdhkhgokggbaaMbNew
import Derived.RegionTactic
import Derived.Laws.IdiomStrings
import Derived.Laws.MakeOwn
namespace Go.Proofs.Ytahdhkhgokggbaa.Member
open Go.RowKit Go.Proofs.Ytahdhkhgokggbaa.Mem
open Go.Proofs.YtahdhkhgokggbaaW.PrintWords hiding bt
set_option linter.unusedVariables false
set_option linter.unusedSimpArgs false

def bytes (l : List UInt8) : ByteArray := ⟨l.toArray⟩
def cells8 (l : List UInt8) : Array Value := (l.map fun b => Value.int .u8 (b.toNat : Int)).toArray
theorem conv8 (W : World) (b : Nat) (l : List UInt8) (n c : Nat) (hn : l.length = n) (h : Blk W b (cells8 l) 5) : (convert 24 9 (.slice (some ⟨b, 0, none⟩) n c)).run Try.prog W = .ok (.string (bytes l)) W := by
  have h := run_convert_bytes_back (P := Try.prog) W 24 9 5 ⟨b, 0, none⟩ c l (by kernel_rfl) (by kernel_rfl) (by kernel_rfl) (fun j hj => by
    rw [Addr.add_mid, Nat.zero_add, h.cell]
    unfold cells8
    rw [List.getElem?_toArray, List.getElem?_map, List.getElem?_eq_getElem hj]; rfl)
  rw [hn] at h
  exact h
theorem made8 (W : World) (N : Nat) (hN : N ≤ 100000) : (Instr.makeSlice 24 (.int .i64 (N : Nat)) (.int .i64 (N : Nat))).run Try.prog W = .ok (.slice (some ⟨W.heap.size, 0, none⟩) N N) (W.alloc (.cells (cells8 (List.replicate N 0)) 5)) := by
  obtain ⟨info, hinfo, hz, hsz, hby⟩ : ∃ i, Try.prog.info? 5 = some i ∧ i.zero = some (.int .u8 0) ∧ i.size = 1 ∧ i.bytes = 1 := by
    have h : (Try.prog.info? 5).map (fun i => (i.zero, i.size, i.bytes)) = some (some (.int .u8 0), 1, 1) := by kernel_rfl
    cases hq : Try.prog.info? 5 with
    | none => rw [hq] at h; simp at h
    | some i =>
      rw [hq] at h
      simp at h
      exact ⟨i, rfl, h.1, h.2.1, h.2.2⟩
  have h := run_makeSlice (P := Try.prog) W 24 5 info (.int .u8 0) (by kernel_rfl) hinfo hz .i64 .i64 N N (by omega) (by omega) (by rw [hsz]; omega) (by rw [hby]; omega) (by omega)
  rw [hsz, Int.toNat_natCast, Nat.mul_one] at h
  have e : madeCells (Value.int .u8 0).cells N = cells8 (List.replicate N 0) := by
    apply Array.ext
    · rw [size_madeCells]; unfold cells8; simp
    · intro i h1 h2
      have e : (Value.int IntKind.u8 0).cells = #[.int .u8 0] := rfl
      unfold cells8
      simp only [madeCells, e, Array.getElem_map, List.map_replicate, List.getElem_toArray, List.getElem_replicate]
      simp [Nat.mod_one]
  rw [e] at h
  exact h
/-- A sector's bytes. -/
def sect (d : UInt8) (odd : Bool) : ByteArray := bytes (d :: List.replicate (bif odd then 62 else 63) 0)
theorem sect_size (d : UInt8) (odd : Bool) : (sect d odd).size = bif odd then 63 else 64 := by
  unfold sect bytes
  cases odd <;> rfl
theorem sect_app (d : UInt8) (N : Nat) : bytes [d] ++ bytes (List.replicate N 0) = bytes (d :: List.replicate N 0) := by
  have e : ∀ a b : ByteArray, a.data.toList = b.data.toList → a = b := fun a b h => by
    cases a; cases b
    congr 1
    exact Array.toList_inj.1 h
  apply e
  rw [ByteArray.data_append, Array.toList_append]
  unfold bytes
  simp
attribute [local irreducible] bytes cells8

set_option maxHeartbeats 4000000 in
set_option maxRecDepth 100000 in
theorem sector_any (d : UInt8) (odd : Bool) (N : Nat) (hN : (N : Int) = bif odd then 62 else 63) (w : World) :
    Calls Try.prog 25 #[.int .u8 (d.toNat : Int), .bool odd] w fun e w' => e = .returned (.string (bytes (d :: List.replicate N 0))) ∧ Below w.heap.size w w' := by
  have hN1 : N ≤ 100 := by cases odd <;> simp at hN <;> omega
  have hone : (#[.int .u8 (d.toNat : Int)] : Array Value) = cells8 [d] := by unfold cells8; rfl
  obtain ⟨R, hR⟩ : ∃ R, R = cells8 (List.replicate N 0) := ⟨_, rfl⟩
  obtain ⟨Z, hZ⟩ : ∃ Z, Z = bytes (List.replicate N 0) := ⟨_, rfl⟩
  obtain ⟨D, hD⟩ : ∃ D, D = bytes [d] := ⟨_, rfl⟩
  have happ : D ++ Z = bytes (d :: List.replicate N 0) := by rw [hD, hZ]; exact sect_app d N
  rw [← happ]
  have hlR : (List.replicate N (0 : UInt8)).length = N := List.length_replicate
  have m0 : (Instr.makeSlice 24 (.int .i64 (N : Nat)) (.int .i64 (N : Nat))).run Try.prog w.drew = .ok (.slice (some ⟨w.heap.size, 0, none⟩) N N) (w.alloc (.cells R 5)).drew := by rw [hR]; exact made8 w.drew N (by omega)
  have m1 : (Instr.makeSlice 24 (.int .i64 (N : Nat)) (.int .i64 (N : Nat))).run Try.prog (w.alloc (.cells #[.int .u8 (d.toNat : Int)] 5)).drew = .ok (.slice (some ⟨w.heap.size + 1, 0, none⟩) N N) ((w.alloc (.cells #[.int .u8 (d.toNat : Int)] 5)).alloc (.cells R 5)).drew := by
    rw [hR]
    have := made8 (w.alloc (.cells #[.int .u8 (d.toNat : Int)] 5)).drew N (by omega)
    have e : (w.alloc (.cells #[.int .u8 (d.toNat : Int)] 5)).drew.heap.size = w.heap.size + 1 := by simp
    rw [e] at this
    exact this
  have bA : Blk (w.alloc (.cells #[.int .u8 (d.toNat : Int)] 5)) w.heap.size (cells8 [d]) 5 := by rw [← hone]; exact Blk.new _ _ _
  have bR : Blk (w.alloc (.cells R 5)) w.heap.size R 5 := Blk.new _ _ _
  have bAR : Blk ((w.alloc (.cells #[.int .u8 (d.toNat : Int)] 5)).alloc (.cells R 5)) (w.heap.size + 1) R 5 := by
    have := Blk.new (w.alloc (.cells #[.int .u8 (d.toNat : Int)] 5)) R 5
    simpa using this
  have bRA : Blk ((w.alloc (.cells R 5)).alloc (.cells #[.int .u8 (d.toNat : Int)] 5)) (w.heap.size + 1) (cells8 [d]) 5 := by
    have := Blk.new (w.alloc (.cells R 5)) #[.int .u8 (d.toNat : Int)] 5
    rw [← hone]
    simpa using this
  have c1 := conv8 (w.alloc (.cells #[.int .u8 (d.toNat : Int)] 5)).drew w.heap.size [d] 1 1 rfl bA.drew
  have c2 := conv8 ((w.alloc (.cells #[.int .u8 (d.toNat : Int)] 5)).alloc (.cells R 5)).drew w.heap.size [d] 1 1 rfl (bA.alloc _).drew
  have c3 := conv8 ((w.alloc (.cells R 5)).alloc (.cells #[.int .u8 (d.toNat : Int)] 5)).drew (w.heap.size + 1) [d] 1 1 rfl bRA.drew
  have c4 := conv8 (w.alloc (.cells R 5)).drew w.heap.size (List.replicate N 0) N N hlR (by rw [hR]; rw [hR] at bR; exact bR.drew)
  have c5 := conv8 ((w.alloc (.cells R 5)).alloc (.cells #[.int .u8 (d.toNat : Int)] 5)).drew w.heap.size (List.replicate N 0) N N hlR (by rw [hR]; rw [hR] at bR; exact (bR.alloc _).drew)
  have c6 := conv8 ((w.alloc (.cells #[.int .u8 (d.toNat : Int)] 5)).alloc (.cells R 5)).drew (w.heap.size + 1) (List.replicate N 0) N N hlR (by rw [hR]; rw [hR] at bAR; exact bAR.drew)
  rw [← hD] at c1 c2 c3
  rw [← hZ] at c4 c5 c6
  have hDs : D.size = 1 := by rw [hD]; unfold bytes; rfl
  have hZs : Z.size ≤ 100 := by rw [hZ]; unfold bytes; simp [ByteArray.size]; omega
  have hno : ¬ 9223372036854775807 < D.size + Z.size := by omega
  clear hone hR hZ hD happ hlR bA bR bAR bRA hDs hZs
  cases odd with
  | false =>
    have eN : N = 63 := by simp at hN; omega
    subst eN
    simp only [Int.cast_ofNat_Int] at m0 m1
    clear hN hN1
    go_enter Try.func25, Try.ntmps25
    go_wp2
    go_region
    all_goals go_wp2
    all_goals go_ret
    all_goals exact ⟨rfl, bd1 (ba (ba (br _) _) _)⟩
  | true =>
    have eN : N = 62 := by simp at hN; omega
    subst eN
    simp only [Int.cast_ofNat_Int] at m0 m1
    clear hN hN1
    go_enter Try.func25, Try.ntmps25
    go_wp2
    go_region
    all_goals go_wp2
    all_goals go_ret
    all_goals exact ⟨rfl, bd1 (ba (ba (br _) _) _)⟩
theorem sector_calls (d : UInt8) (odd : Bool) (w : World) :
    Calls Try.prog 25 #[.int .u8 (d.toNat : Int), .bool odd] w fun e w' => e = .returned (.string (sect d odd)) ∧ Below w.heap.size w w' :=
  sector_any d odd (bif odd then 62 else 63) (by cases odd <;> rfl) w
end Go.Proofs.Ytahdhkhgokggbaa.Member
