/- The bay law's sector walked: a byte, and noughts behind it. -/
import Derived.Test.YtahdhkhgokggbaaSectorM
namespace Go.Proofs.Ytahdhkhgokggbaa.Member
open Go.RowKit Go.Proofs.Ytahdhkhgokggbaa.Mem
open Go.Proofs.YtahdhkhgokggbaaW.PrintWords hiding bt
set_option linter.unusedVariables false
set_option linter.unusedSimpArgs false

attribute [local irreducible] bytes cells8

set_option maxHeartbeats 4000000 in
set_option maxRecDepth 100000 in
theorem bsector_any (d : UInt8) (odd : Bool) (N : Nat) (hN : (N : Int) = bif odd then 62 else 63) (w : World) :
    Calls Try.prog 53 #[.int .u8 (d.toNat : Int), .bool odd] w fun e w' => e = .returned (.string (bytes (d :: List.replicate N 0))) ∧ Below w.heap.size w w' := by
  have hN1 : N ≤ 100 := by cases odd <;> simp at hN <;> omega
  have hone : (#[.int .u8 (d.toNat : Int)] : Array Value) = cells8 [d] := by unfold cells8; rfl
  obtain ⟨R, hR⟩ : ∃ R, R = cells8 (List.replicate N 0) := ⟨_, rfl⟩
  obtain ⟨Z, hZ⟩ : ∃ Z, Z = bytes (List.replicate N 0) := ⟨_, rfl⟩
  obtain ⟨D, hD⟩ : ∃ D, D = bytes [d] := ⟨_, rfl⟩
  have happ : D ++ Z = bytes (d :: List.replicate N 0) := by rw [hD, hZ]; exact sect_app d N
  rw [← happ]
  have hlR : (List.replicate N (0 : UInt8)).length = N := List.length_replicate
  have m0 : (Instr.makeSlice 24 (.int .i64 (N : Nat)) (.int .i64 (N : Nat))).run Try.prog w.drew = .ok (.slice (some ⟨w.heap.size, 0, none⟩) N N) (w.alloc (.cells R 5)).drew := by rw [hR]; exact made8 w.drew N (by omega)
  have m1 : (Instr.makeSlice 24 (.int .i64 (N : Nat)) (.int .i64 (N : Nat))).run Try.prog (w.alloc (.cells #[.int .u8 (d.toNat : Int)] 5)).drew = .ok (.slice (some ⟨w.heap.size + 1, 0, none⟩) N N) ((w.alloc (.cells #[.int .u8 (d.toNat : Int)] 5)).alloc (.cells R 5)).drew := by
    rw [hR]
    have := made8 (w.alloc (.cells #[.int .u8 (d.toNat : Int)] 5)).drew N (by omega)
    have e : (w.alloc (.cells #[.int .u8 (d.toNat : Int)] 5)).drew.heap.size = w.heap.size + 1 := by simp
    rw [e] at this
    exact this
  have bA : Blk (w.alloc (.cells #[.int .u8 (d.toNat : Int)] 5)) w.heap.size (cells8 [d]) 5 := by rw [← hone]; exact Blk.new _ _ _
  have bR : Blk (w.alloc (.cells R 5)) w.heap.size R 5 := Blk.new _ _ _
  have bAR : Blk ((w.alloc (.cells #[.int .u8 (d.toNat : Int)] 5)).alloc (.cells R 5)) (w.heap.size + 1) R 5 := by
    have := Blk.new (w.alloc (.cells #[.int .u8 (d.toNat : Int)] 5)) R 5
    simpa using this
  have bRA : Blk ((w.alloc (.cells R 5)).alloc (.cells #[.int .u8 (d.toNat : Int)] 5)) (w.heap.size + 1) (cells8 [d]) 5 := by
    have := Blk.new (w.alloc (.cells R 5)) #[.int .u8 (d.toNat : Int)] 5
    rw [← hone]
    simpa using this
  have c1 := conv8 (w.alloc (.cells #[.int .u8 (d.toNat : Int)] 5)).drew w.heap.size [d] 1 1 rfl bA.drew
  have c2 := conv8 ((w.alloc (.cells #[.int .u8 (d.toNat : Int)] 5)).alloc (.cells R 5)).drew w.heap.size [d] 1 1 rfl (bA.alloc _).drew
  have c3 := conv8 ((w.alloc (.cells R 5)).alloc (.cells #[.int .u8 (d.toNat : Int)] 5)).drew (w.heap.size + 1) [d] 1 1 rfl bRA.drew
  have c4 := conv8 (w.alloc (.cells R 5)).drew w.heap.size (List.replicate N 0) N N hlR (by rw [hR]; rw [hR] at bR; exact bR.drew)
  have c5 := conv8 ((w.alloc (.cells R 5)).alloc (.cells #[.int .u8 (d.toNat : Int)] 5)).drew w.heap.size (List.replicate N 0) N N hlR (by rw [hR]; rw [hR] at bR; exact (bR.alloc _).drew)
  have c6 := conv8 ((w.alloc (.cells #[.int .u8 (d.toNat : Int)] 5)).alloc (.cells R 5)).drew (w.heap.size + 1) (List.replicate N 0) N N hlR (by rw [hR]; rw [hR] at bAR; exact bAR.drew)
  rw [← hD] at c1 c2 c3
  rw [← hZ] at c4 c5 c6
  have hDs : D.size = 1 := by rw [hD]; unfold bytes; rfl
  have hZs : Z.size ≤ 100 := by rw [hZ]; unfold bytes; simp [ByteArray.size]; omega
  have hno : ¬ 9223372036854775807 < D.size + Z.size := by omega
  clear hone hR hZ hD happ hlR bA bR bAR bRA hDs hZs
  cases odd with
  | false =>
    have eN : N = 63 := by simp at hN; omega
    subst eN
    simp only [Int.cast_ofNat_Int] at m0 m1
    clear hN hN1
    go_enter Try.func53, Try.ntmps53
    go_wp2
    go_region
    all_goals go_wp2
    all_goals go_ret
    all_goals exact ⟨rfl, bd1 (ba (ba (br _) _) _)⟩
  | true =>
    have eN : N = 62 := by simp at hN; omega
    subst eN
    simp only [Int.cast_ofNat_Int] at m0 m1
    clear hN hN1
    go_enter Try.func53, Try.ntmps53
    go_wp2
    go_region
    all_goals go_wp2
    all_goals go_ret
    all_goals exact ⟨rfl, bd1 (ba (ba (br _) _) _)⟩
theorem bsector_calls (d : UInt8) (odd : Bool) (w : World) :
    Calls Try.prog 53 #[.int .u8 (d.toNat : Int), .bool odd] w fun e w' => e = .returned (.string (sect d odd)) ∧ Below w.heap.size w w' :=
  bsector_any d odd (bif odd then 62 else 63) (by cases odd <;> rfl) w
end Go.Proofs.Ytahdhkhgokggbaa.Member
