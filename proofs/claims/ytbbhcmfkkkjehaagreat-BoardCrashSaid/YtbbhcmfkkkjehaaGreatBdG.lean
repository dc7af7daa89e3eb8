/- Where a stripe stands, noughts, walked. -/
import Derived.Test.YtbbhcmfkkkjehaaGreatGlB
import Derived.Test.YtbbhcmfkkkjehaaGreatGmA
import Derived.Lib.SlBytesConst
namespace Go.Proofs.YtbbhcmfkkkjehaaGreat.Brd
open Go.RowKit Go.Proofs.YtbbhcmfkkkjehaaGreat.Mem Go.Proofs.YtbbhcmfkkkjehaaGreat.Sep Go.Proofs.YtbbhcmfkkkjehaaGreat.Member Go.Proofs.YtbbhcmfkkkjehaaGreat.Lab
open Go.Proofs.YtbbhcmfkkkjehaaGreatW.PrintWords hiding bt
set_option linter.unusedVariables false
set_option linter.unusedSimpArgs false

theorem repeat64 : (⟨(Lib.repeatL (⟨#[0]⟩ : ByteArray).data.toList 64).toArray⟩ : ByteArray) = z64 := by decide +kernel
theorem noughts_calls (w : World) :
    Calls Tryz.prog 126 #[.int .i64 64] w fun e w' => e = .returned (.string z64) ∧ Below w.heap.size w w' := by
  go_enter Tryz.func126, Tryz.ntmps126
  go_wp2_with fail
  refine (Tryz.strings_Repeat ⟨#[0]⟩ 64 _ (by omega) (by show 1 * 64 ≤ _; omega)).mono ?_
  rw [repeat64]
  rintro e w1 ⟨rfl, b1⟩
  go_wp2
  go_ret
  exact ⟨rfl, b1⟩
theorem sectors_calls (m t : Int) (hg : ggood m t = true) (w : World) :
    Calls Tryz.prog 118 #[.agg #[.int .i64 m, .int .i64 t]] w fun e w' => e = .returned (.int .i64 (100 + t)) ∧ Below w.heap.size w w' := by
  have HG := Lib.hid (ggood_calls m t)
  rw [hg] at HG
  have ht : 1 ≤ t ∧ t ≤ 64 := by unfold ggood at hg; simp at hg; omega
  have e1 : IntKind.i64.wrap (100 + t) = 100 + t := IntWalk.i64_in _ (by omega)
  have h0 := Blk.new w #[.int .i64 m, .int .i64 t] 40
  have HB0 := Lib.hid (And.intro h0 (ba (br w) (.cells #[.int .i64 m, .int .i64 t] 40)))
  clear hg ht h0
  go_enter Tryz.func118, Tryz.ntmps118
  go_wp2_with fail
  refine (HG.out _).mono ?_
  rintro e w' ⟨rfl, hbel⟩
  have hb1 := HB0.out.1.below hbel (Blk.lt HB0.out.1)
  have c0 := hb1.cell 0
  have c1 := hb1.cell 1
  have HB := Lib.hid (bt HB0.out.2 hbel)
  clear hb1 hbel
  go_wp2
  go_ret
  exact ⟨rfl, HB.out⟩
set_option maxHeartbeats 4000000 in
theorem within_calls (m t i x : Int) (hg : ggood m t = true) (h0 : 0 ≤ i) (h1 : i < x) (g c : Nat) (hc : 1 ≤ c) (w : World) (c0 : w.cell? ⟨g, 0, none⟩ = some (.int .i64 i)) (c1 : w.cell? ⟨g, 1, none⟩ = some (.int .i64 x)) :
    Calls Tryz.prog 194 #[.agg #[.int .i64 m, .int .i64 t], .slice (some ⟨g, 0, none⟩) 1 c] w fun e w' => e = .returned (.int .i64 0) ∧ Below w.heap.size w w' := by
  have HG := Lib.hid (ggood_calls m t)
  rw [hg] at HG
  have d0 : decide (i < 0) = false := decide_eq_false (by omega)
  have d1 : decide (i ≥ x) = false := decide_eq_false (by omega)
  have d2 : decide (x ≤ i) = false := decide_eq_false (by omega)
  have HA := Lib.hid (ba (br w) (.cells #[.int .i64 m, .int .i64 t] 40))
  have HC := Lib.hid (And.intro c0 c1)
  clear hg h0 h1 c0 c1
  go_enter Tryz.func194, Tryz.ntmps194
  go_wp2_with fail
  refine (HG.out _).mono ?_
  rintro e w' ⟨rfl, hbel⟩
  have HB := Lib.hid (bt HA.out hbel)
  clear hbel HA
  go_wp2
  go_loopw [12] (fun i wr => ∃ k : Nat, k ≤ 1 ∧ i = .int .i64 k ∧ Hid (Below w.heap.size w wr)) (fun i _ => 1 - (intOf i).toNat)
  case atStart => exact ⟨0, Nat.zero_le _, rfl, HB⟩
  case round =>
    clear HB
    obtain ⟨k, hk, rfl, HB⟩ := hrel
    by_cases hlt : k < 1
    · obtain rfl : k = 0 := by omega
      have c0 : wr.cell? ⟨g, 0, none⟩ = some (.int .i64 i) := by rw [HB.out.cell (World.block_lt_of_cell? _ _ HC.out.1)]; exact HC.out.1
      have c1 : wr.cell? ⟨g, 1, none⟩ = some (.int .i64 x) := by rw [HB.out.cell (World.block_lt_of_cell? _ _ HC.out.2)]; exact HC.out.2
      go_wp2
      go_roundw
      case measure => simp [intOf]
      case rel => exact ⟨1, Nat.le_refl _, by go_num, Lib.hid (ba HB.out _)⟩
    · obtain rfl : k = 1 := by omega
      go_wp2
      go_ret
      exact ⟨rfl, HB.out⟩
end Go.Proofs.YtbbhcmfkkkjehaaGreat.Brd
