/- SyndromeDeltas: the parities behind every change are the document's, or its error; walked. -/
import Derived.Test.YtgojbngdncligaaSynRef
namespace Go.Proofs.Ytgojbngdncligaa.SyndromeDeltasW
open Go.RowKit Go.Proofs.Ytgojbngdncligaa.Mem Go.Proofs.Ytgojbngdncligaa.Bulk Go.Proofs.Ytgojbngdncligaa.Opn Go.Proofs.Ytgojbngdncligaa.Syn
set_option linter.unusedVariables false
set_option linter.unusedSimpArgs false

theorem StC.five {w : World} {g : Nat} {l0 l1 l2 l3 : ByteArray} {x : World} {P : Prop} (h : StC w g [l0, l1, l2, l3] x) (p : P) :
    x.cell? ⟨g, 0, none⟩ = some (.string l0) ∧ x.cell? ⟨g, 1, none⟩ = some (.string l1) ∧ x.cell? ⟨g, 2, none⟩ = some (.string l2) ∧ x.cell? ⟨g, 3, none⟩ = some (.string l3) ∧ StC w g [l0, l1, l2, l3] x ∧ P :=
  ⟨h.cells 0 l0 rfl, h.cells 1 l1 rfl, h.cells 2 l2 rfl, h.cells 3 l3 rfl, h, p⟩
set_option maxHeartbeats 4000000 in
set_option maxRecDepth 100000 in
theorem walk (a0 : Array Value) (a1 : Int) (a2 : Bool) (w : World) (f0 : Rd w (arr 1 (.str) 4) a0.toList) (f1 : (Lit.int .i64 a1).wf = true) :
    Calls Try.prog 12 #[.agg a0, .int .i64 a1, .bool a2] w fun e w' => e = .returned (.bool true) ∧ Below w.heap.size w w' := by
  obtain ⟨S, hS, hS4, hz⟩ := rd_arr 4 _ f0
  obtain ⟨s0, s1, s2, s3, rfl⟩ := four_of hS4
  obtain rfl : a0 = #[.string s0, .string s1, .string s2, .string s3] := Array.ext' hS
  have hL4 := Syn.cut_len a2 [s0, s1, s2, s3]
  obtain ⟨l0, l1, l2, l3, hL⟩ := four_of (L := SynCut.cutL a2 [s0, s1, s2, s3]) (by rw [hL4]; rfl)
  have hs := Syn.cut_size a2 [s0, s1, s2, s3]
  have hcut := SynCut.cut_calls (some ⟨w.heap.size, 0, none⟩) 4 [s0, s1, s2, s3] a2 (by simp) (by omega) hz _ (arr_strs w [s0, s1, s2, s3] 55)
  rw [hL] at hcut hs
  have HC := Lib.hid hcut
  have HS : Hid (∀ s ∈ [l0, l1, l2, l3], s.size ≤ 9223372036854775807) := Lib.hid (fun s h => by have := hs s h; omega)
  obtain ⟨m, hm⟩ : ∃ m, m = bits BinOp.and IntKind.i64 a1 31 := ⟨_, rfl⟩
  have hmw : (Lit.int .i64 m).wf = true := by rw [hm]; exact wf_bits _ _ _ _
  have HM := Lib.hid hmw
  have H1 := Lib.hid f1
  clear hcut hL hL4 hS hS4 hz f0 f1 hmw hs
  go_enter Try.func12, Try.ntmps12
  go_wp2_with fail
  refine HC.out.mono ?_
  rintro e w1 ⟨v, rfl, hown, b1⟩
  obtain ⟨g, c', hv, k1, k2, _, hgl, hS0⟩ := StC.of_own (w := w) hown (bt (ba (br _) _) b1) (by simp)
  have hv2 : v = .slice (some ⟨g, 0, none⟩) 4 c' := hv
  have k1 : 4 ≤ c' := k1
  clear hv hown b1
  subst hv2
  go_wp2
  rw [← hm]
  obtain ⟨B, hB⟩ : ∃ B, B = w1.heap.size := ⟨_, rfl⟩
  rw [← hB]
  have hbk : Blk (w1.alloc (.cells #[.int .i64 a1, .int .i64 m] 3)) B #[.int .i64 a1, .int .i64 m] 3 := by rw [hB]; exact Blk.new _ _ _
  clear hB hm
  go_loopw [24] (fun i wr => (i = .int .i64 0 ∨ i = .int .i64 1 ∨ i = .int .i64 2) ∧ Blk wr B #[.int .i64 a1, .int .i64 m] 3 ∧ StC w g [l0, l1, l2, l3] wr) (fun i _ => 2 - (intOf i).toNat)
  case atStart => exact ⟨.inl rfl, hbk, hS0.alloc _⟩
  case round =>
    obtain ⟨hi, hb, hst⟩ := hrel
    have c0 : wr.cell? ⟨B, 0, none⟩ = some (.int .i64 a1) := hb.cell 0
    have c1 : wr.cell? ⟨B, 1, none⟩ = some (.int .i64 m) := hb.cell 1
    rcases hi with rfl | rfl | rfl
    · have cD : Hid (∀ wx, StC w g [l0, l1, l2, l3] wx → Blk wx B #[.int .i64 a1, .int .i64 m] 3 → Calls Try.prog 33 #[.string l0, .string l1, .int .i64 a1, .string l2, .string l3] wx fun e w' => e = .returned (.tuple #[.string (deltaP a1 l0 l1 l2 l3), .string (deltaQ a1 l0 l1 l2 l3), .int .i64 (deltaE a1 l0 l1 l2 l3)]) ∧ StC w g [l0, l1, l2, l3] w' ∧ Blk w' B #[.int .i64 a1, .int .i64 m] 3) := Lib.hid (fun wx h hk => by
        refine (delta_calls l0 l1 a1 l2 l3 H1.out (HS.out l0 (by simp)) (HS.out l1 (by simp)) (HS.out l2 (by simp)) (HS.out l3 (by simp)) wx).mono ?_
        rintro e w' ⟨rfl, b⟩; exact ⟨rfl, h.step b, hk.below b hk.lt⟩)
      have rD : Hid (∀ wx, StC w g [l0, l1, l2, l3] wx → Blk wx B #[.int .i64 a1, .int .i64 m] 3 → Calls Try.prog 34 #[.string l0, .string l1, .int .i64 a1, .string l2, .string l3] wx fun e w' => e = .returned (.tuple #[.string (deltaP a1 l0 l1 l2 l3), .string (deltaQ a1 l0 l1 l2 l3), .int .i64 (deltaE a1 l0 l1 l2 l3)]) ∧ StC w g [l0, l1, l2, l3] w' ∧ Blk w' B #[.int .i64 a1, .int .i64 m] 3) := Lib.hid (fun wx h hk => by
        refine (ref_delta_calls l0 l1 a1 l2 l3 wx).mono ?_
        rintro e w' ⟨rfl, b⟩; exact ⟨rfl, h.step b, hk.below b hk.lt⟩)
      go_upto_region 5 with fail
      go_region_held3 (fun w' => w'.cell? ⟨g, 0, none⟩ = some (.string l0) ∧ w'.cell? ⟨g, 1, none⟩ = some (.string l1) ∧ w'.cell? ⟨g, 2, none⟩ = some (.string l2) ∧ w'.cell? ⟨g, 3, none⟩ = some (.string l3) ∧ StC w g [l0, l1, l2, l3] w' ∧ Blk w' B #[.int .i64 a1, .int .i64 m] 3) (first | exact StC.five (by assumption) (by assumption) | exact StC.five hst.drew hb) (first
        | (go_at_call 33; refine (cD.out _ (by first | assumption | exact And.left (And.right (And.right (And.right (And.right (by assumption)))))) (by first | assumption | exact And.right (And.right (And.right (And.right (And.right (by assumption))))))).mono ?_; rintro e w' ⟨rfl, hS', hk'⟩))
      obtain ⟨_, _, _, _, hst1, hb1⟩ := ‹_ ∧ _ ∧ _ ∧ _ ∧ StC w g [l0, l1, l2, l3] _ ∧ _›
      go_upto_region 6 with fail
      go_region_held3 (fun w' => w'.cell? ⟨g, 0, none⟩ = some (.string l0) ∧ w'.cell? ⟨g, 1, none⟩ = some (.string l1) ∧ w'.cell? ⟨g, 2, none⟩ = some (.string l2) ∧ w'.cell? ⟨g, 3, none⟩ = some (.string l3) ∧ StC w g [l0, l1, l2, l3] w' ∧ Blk w' B #[.int .i64 a1, .int .i64 m] 3) (first | exact StC.five (by assumption) (by assumption) | exact StC.five hst1.drew hb1) (first
        | (go_at_call 34; refine (rD.out _ (by first | assumption | exact And.left (And.right (And.right (And.right (And.right (by assumption)))))) (by first | assumption | exact And.right (And.right (And.right (And.right (And.right (by assumption))))))).mono ?_; rintro e w' ⟨rfl, hS', hk'⟩))
      obtain ⟨_, _, _, _, hst2, hb2⟩ := ‹_ ∧ _ ∧ _ ∧ _ ∧ StC w g [l0, l1, l2, l3] _ ∧ _›
      go_wp2
      go_roundw
      case measure => simp [intOf]
      case rel => exact ⟨.inr (.inl rfl), hb2, hst2⟩
    · have cD : Hid (∀ wx, StC w g [l0, l1, l2, l3] wx → Blk wx B #[.int .i64 a1, .int .i64 m] 3 → Calls Try.prog 33 #[.string l0, .string l1, .int .i64 m, .string l2, .string l3] wx fun e w' => e = .returned (.tuple #[.string (deltaP m l0 l1 l2 l3), .string (deltaQ m l0 l1 l2 l3), .int .i64 (deltaE m l0 l1 l2 l3)]) ∧ StC w g [l0, l1, l2, l3] w' ∧ Blk w' B #[.int .i64 a1, .int .i64 m] 3) := Lib.hid (fun wx h hk => by
        refine (delta_calls l0 l1 m l2 l3 HM.out (HS.out l0 (by simp)) (HS.out l1 (by simp)) (HS.out l2 (by simp)) (HS.out l3 (by simp)) wx).mono ?_
        rintro e w' ⟨rfl, b⟩; exact ⟨rfl, h.step b, hk.below b hk.lt⟩)
      have rD : Hid (∀ wx, StC w g [l0, l1, l2, l3] wx → Blk wx B #[.int .i64 a1, .int .i64 m] 3 → Calls Try.prog 34 #[.string l0, .string l1, .int .i64 m, .string l2, .string l3] wx fun e w' => e = .returned (.tuple #[.string (deltaP m l0 l1 l2 l3), .string (deltaQ m l0 l1 l2 l3), .int .i64 (deltaE m l0 l1 l2 l3)]) ∧ StC w g [l0, l1, l2, l3] w' ∧ Blk w' B #[.int .i64 a1, .int .i64 m] 3) := Lib.hid (fun wx h hk => by
        refine (ref_delta_calls l0 l1 m l2 l3 wx).mono ?_
        rintro e w' ⟨rfl, b⟩; exact ⟨rfl, h.step b, hk.below b hk.lt⟩)
      go_upto_region 5 with fail
      go_region_held3 (fun w' => w'.cell? ⟨g, 0, none⟩ = some (.string l0) ∧ w'.cell? ⟨g, 1, none⟩ = some (.string l1) ∧ w'.cell? ⟨g, 2, none⟩ = some (.string l2) ∧ w'.cell? ⟨g, 3, none⟩ = some (.string l3) ∧ StC w g [l0, l1, l2, l3] w' ∧ Blk w' B #[.int .i64 a1, .int .i64 m] 3) (first | exact StC.five (by assumption) (by assumption) | exact StC.five hst.drew hb) (first
        | (go_at_call 33; refine (cD.out _ (by first | assumption | exact And.left (And.right (And.right (And.right (And.right (by assumption)))))) (by first | assumption | exact And.right (And.right (And.right (And.right (And.right (by assumption))))))).mono ?_; rintro e w' ⟨rfl, hS', hk'⟩))
      obtain ⟨_, _, _, _, hst1, hb1⟩ := ‹_ ∧ _ ∧ _ ∧ _ ∧ StC w g [l0, l1, l2, l3] _ ∧ _›
      go_upto_region 6 with fail
      go_region_held3 (fun w' => w'.cell? ⟨g, 0, none⟩ = some (.string l0) ∧ w'.cell? ⟨g, 1, none⟩ = some (.string l1) ∧ w'.cell? ⟨g, 2, none⟩ = some (.string l2) ∧ w'.cell? ⟨g, 3, none⟩ = some (.string l3) ∧ StC w g [l0, l1, l2, l3] w' ∧ Blk w' B #[.int .i64 a1, .int .i64 m] 3) (first | exact StC.five (by assumption) (by assumption) | exact StC.five hst1.drew hb1) (first
        | (go_at_call 34; refine (rD.out _ (by first | assumption | exact And.left (And.right (And.right (And.right (And.right (by assumption)))))) (by first | assumption | exact And.right (And.right (And.right (And.right (And.right (by assumption))))))).mono ?_; rintro e w' ⟨rfl, hS', hk'⟩))
      obtain ⟨_, _, _, _, hst2, hb2⟩ := ‹_ ∧ _ ∧ _ ∧ _ ∧ StC w g [l0, l1, l2, l3] _ ∧ _›
      go_wp2
      go_roundw
      case measure => simp [intOf]
      case rel => exact ⟨.inr (.inr rfl), hb2, hst2⟩
    · go_wp2_with fail
      refine (Syn.wakes_calls _).mono ?_
      rintro e w8 ⟨rfl, b8⟩
      go_wp2
      go_ret
      exact ⟨rfl, bt hst.below b8⟩
end Go.Proofs.Ytgojbngdncligaa.SyndromeDeltasW
