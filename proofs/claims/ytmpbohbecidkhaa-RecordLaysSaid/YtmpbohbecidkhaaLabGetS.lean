/- label.Get, walked: a sector whose sum is another one. -/
import Derived.Test.YtmpbohbecidkhaaLabGet
namespace Go.Proofs.Ytmpbohbecidkhaa.Lab
open Go.RowKit Go.Proofs.Ytmpbohbecidkhaa.Mem Go.Proofs.Ytmpbohbecidkhaa.Sep Go.Proofs.Ytmpbohbecidkhaa.Num Go.Proofs.Ytmpbohbecidkhaa.B8 Go.Proofs.Ytmpbohbecidkhaa.CrcS Go.Proofs.Ytmpbohbecidkhaa.Bld
open Go.Proofs.YtmpbohbecidkhaaW.PrintWords hiding bt
set_option linter.unusedVariables false
set_option linter.unusedSimpArgs false

theorem by8_extract (s : ByteArray) (i j : Nat) : by8 (s.extract i j) = ((by8 s).drop i).take (j - i) := by
  unfold by8
  rw [ByteArray.data_extract, Array.toList_extract, List.extract_eq_take_drop, List.map_take, List.map_drop]
attribute [local irreducible] vn bts big num CrcA.sum by8
set_option maxHeartbeats 8000000 in
set_option maxRecDepth 100000 in
theorem get_sum (s : ByteArray) (h64 : s.size = 64) (hm : (by8 s).take 4 = magic) (hne : num (((by8 s).drop 46).take 4) ≠ CrcA.sum ((by8 s).take 46)) (w : World) :
    Calls Try.prog 23 #[.string s] w fun e w' => e = .returned (.tuple #[zlab, .int .i64 6]) ∧ Below w.heap.size w w' := by
  have hb0 := Blk.new w #[.int .i64 0, .int .i64 0, .int .i64 0, .slice none 0 0, .slice none 0 0] 29
  obtain ⟨⟨e0, e1, e2, e3, e4⟩, f0, f1, f2, f3, f4⟩ := five hb0
  have HB := Lib.hid hb0
  have HP := Lib.hid (Try.strings_HasPrefix s ⟨#[84, 82, 85, 78]⟩)
  rw [hasPrefix_magic, decide_eq_true hm] at HP
  have z1 : ((s.size : Int) == 64) = true := beq_iff_eq.2 (by omega)
  have z2 : ((s.size : Int) != 64) = false := by rw [bne, z1]; rfl
  have k1 := told_calls (s.extract 46 50) (by rw [ByteArray.size_extract]; omega)
  have k2 := slow_calls (s.extract 0 46) (by rw [ByteArray.size_extract]; omega)
  rw [by8_extract] at k1 k2
  obtain ⟨a, ha⟩ : ∃ a, a = num (((by8 s).drop 46).take (50 - 46)) := ⟨_, rfl⟩
  obtain ⟨b, hb⟩ : ∃ b, b = CrcA.sum (((by8 s).drop 0).take (46 - 0)) := ⟨_, rfl⟩
  rw [← ha] at k1
  rw [← hb] at k2
  have hab : a ≠ b := by rw [ha, hb]; simpa using hne
  have hb32 : b < 4294967296 := by rw [hb]; exact CrcA.sum_lt _ (fun x hx => by8_lt s x (List.mem_of_mem_drop (List.mem_of_mem_take hx)))
  have c1 : ((a : Int) == (b : Int)) = false := beq_eq_false_iff_ne.2 (by omega)
  have c2 : ((a : Int) != (b : Int)) = true := bne_iff_ne.2 (by omega)
  have c3 : IntKind.u64.wrap (b : Int) = (b : Int) := IntWalk.u64_in _ (by omega)
  have K1 := Lib.hid k1
  have K2 := Lib.hid k2
  have s1 : 50 ≤ s.size := by omega
  have s2 : (50 : Int) ≤ (s.size : Int) := by omega
  have s3 : (46 : Int) ≤ (s.size : Int) := by omega
  clear hb0 hm hne k1 k2 ha hb hab h64
  go_enter Try.func23, Try.ntmps23
  go_wp2_with fail
  refine (HP.out _).mono ?_
  rintro e w' ⟨rfl, rfl⟩
  go_wp2
  go_region_held3 (fun w' => w'.cell? ⟨w.heap.size, 0, none⟩ = some (.int .i64 0))
    (first | assumption | exact e0)
    (first
      | (go_at_call 54; refine (K1.out _).mono ?_; rintro e w2 ⟨rfl, ⟨nd, rfl⟩⟩)
      | (go_at_call 49; refine (K2.out _).mono ?_; rintro e w2 ⟨rfl, ⟨nd, rfl⟩⟩))
  all_goals go_wp2
  all_goals (refine get_ret (Blk.set5 (HB.out.drewN _) _ _ _ _ _) _ _ _ ⟨rfl, ?_⟩; exact below5 (bd (ba (br w) _) _) (Nat.le_refl _) _ _ _ _ _)
end Go.Proofs.Ytmpbohbecidkhaa.Lab
