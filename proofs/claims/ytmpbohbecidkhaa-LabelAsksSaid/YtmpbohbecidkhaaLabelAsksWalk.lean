/- The law of what a label is asked, walked. -/
import Derived.Test.YtmpbohbecidkhaaLabArg
namespace Go.Proofs.Ytmpbohbecidkhaa.LabelAsksW
open Go.RowKit Go.Proofs.Ytmpbohbecidkhaa.Mem Go.Proofs.Ytmpbohbecidkhaa.Sep Go.Proofs.Ytmpbohbecidkhaa.Opn Go.Proofs.Ytmpbohbecidkhaa.App Go.Proofs.Ytmpbohbecidkhaa.Lab
open Go.Proofs.YtmpbohbecidkhaaW.PrintWords hiding bt
set_option linter.unusedVariables false
set_option linter.unusedSimpArgs false
attribute [local irreducible] cut40
set_option maxHeartbeats 8000000 in
set_option maxRecDepth 100000 in
theorem walk (a0 : Array Value) (m t : Int) (W : World) (hr : Rd W rawSh a0.toList) (hm : (Lit.int .i64 m).wf = true) (ht : (Lit.int .i64 t).wf = true) :
    Calls Try.prog 7 #[.agg a0, .int .i64 m, .int .i64 t] W fun e w' => e = .returned (.bool true) ∧ Below W.heap.size W w' := by
  obtain ⟨l, a1, n1, c1, a2, n2, c2, hok, rfl⟩ := rd_rawA hr
  have HL := Lib.hid hok
  clear hok hr
  have s0 := Sp.newAt (Sp.start W) #[.int .i64 l.m, .int .i64 l.t, .int .i64 l.ep, .slice a1 n1 c1, .slice a2 n2 c2] 24 W.heap.size rfl
  have H0 := Lib.hid s0
  have hls := labels_raw HL.out s0.bel
  obtain ⟨q, hq⟩ : ∃ q, q = cut40 l := ⟨_, rfl⟩
  rw [← hq] at hls
  have HLS := Lib.hid hls
  clear s0 hls hq
  go_enter Try.func7, Try.ntmps7
  go_wp2_with fail
  refine HLS.out.mono ?_
  rintro e w1 ⟨⟨va, vb, rfl, hva, hvb⟩, hb1⟩
  obtain ⟨x1, m1, d1, x2, m2, d2, rfl⟩ := hva.five
  obtain ⟨y1, k1, e1, y2, k2, e2, rfl⟩ := hvb.five
  have hbx := (Bx.new (T := 29) (U := 32) (bt H0.out.bel hb1) hva hvb (w1.heap.size + 1) rfl).drew
  have HB := Lib.hid hbx
  clear hva hvb hb1 HLS H0 hbx
  go_wp2_with fail
  go_upto_region 2 with fail
  go_region_held3 (fun w' => w'.cell? ⟨w1.heap.size, 0, none⟩ = some (.int .i64 q.m) ∧ w'.cell? ⟨w1.heap.size, 1, none⟩ = some (.int .i64 q.t) ∧ w'.cell? ⟨w1.heap.size, 2, none⟩ = some (.int .i64 q.ep) ∧ w'.cell? ⟨w1.heap.size, 3, none⟩ = some (.slice x1 m1 d1) ∧ w'.cell? ⟨w1.heap.size, 4, none⟩ = some (.slice x2 m2 d2) ∧
      w'.cell? ⟨w1.heap.size + 1, 0, none⟩ = some (.int .i64 q.m) ∧ w'.cell? ⟨w1.heap.size + 1, 1, none⟩ = some (.int .i64 q.t) ∧ w'.cell? ⟨w1.heap.size + 1, 2, none⟩ = some (.int .i64 q.ep) ∧ w'.cell? ⟨w1.heap.size + 1, 3, none⟩ = some (.slice y1 k1 e1) ∧ w'.cell? ⟨w1.heap.size + 1, 4, none⟩ = some (.slice y2 k2 e2))
    (first | assumption | exact HB.out.cells)
    (first
      | (go_at_call 19; refine (wakes_calls _).mono ?_; rintro e w2 ⟨rfl, hb⟩; have HB := Lib.hid (HB.out.step hb); have hS2 := HB.out.cells)
      | (go_at_call 27; refine (whole_got HB.out.ga _ _).mono ?_; rintro e w2 ⟨rfl, hb⟩; have HB := Lib.hid (HB.out.step hb); have hS2 := HB.out.cells)
      | (go_at_call 28; refine (rwhole_got HB.out.gb _ _).mono ?_; rintro e w2 ⟨rfl, hb⟩; have HB := Lib.hid (HB.out.step hb); have hS2 := HB.out.cells)
      | (go_at_call 29; refine (missing_got HB.out.ga).mono ?_; rintro e w2 ⟨rfl, hb⟩; have HB := Lib.hid (HB.out.step hb); have hS2 := HB.out.cells)
      | (go_at_call 30; refine (rmissing_got HB.out.gb).mono ?_; rintro e w2 ⟨rfl, hb⟩; have HB := Lib.hid (HB.out.step hb); have hS2 := HB.out.cells))
  all_goals go_wp2
  all_goals go_ret
  all_goals exact ⟨rfl, HB.out.bel⟩
end Go.Proofs.Ytmpbohbecidkhaa.LabelAsksW
