/- One call of both disks: Get and May; walked. -/
import Derived.Test.YtahdhkhgokggbaaAct28F
namespace Go.Proofs.Ytahdhkhgokggbaa.Judge
open Go.RowKit Go.Proofs.Ytahdhkhgokggbaa.Mem
open Go.Proofs.YtahdhkhgokggbaaW.PrintWords hiding bt
set_option linter.unusedVariables false
set_option linter.unusedSimpArgs false

section
variable {w0 w : World} {O : Nat → Prop} {F B R n : Nat} {st : St} {now lasts : List ByteArray} {since : Since}
theorem Jr.rcell {O : Nat → Prop} (h : Jr w0 O F B R n st now lasts since w) : ∃ gN cN, w.cell? ⟨R, 0, none⟩ = some (.slice (some ⟨gN, 0, none⟩) now.length cN) ∧ now.length ≤ cN ∧ cN ≤ 9223372036854775807 ∧ ∀ i s, now[i]? = some s → w.cell? ⟨gN, i, none⟩ = some (.string s) := by
  obtain ⟨P, C, v, g, Q, vN, vL, vS, gN, gL, h1, h2, h3, h4, h5, h6, h7⟩ := h
  obtain ⟨cN, hvN, hc, hc2⟩ := h2.n.shape
  exact ⟨gN, cN, by rw [h2.cells.1, hvN], hc, hc2, fun i s hs => h2.n.cell hs⟩
set_option maxHeartbeats 8000000 in
set_option maxRecDepth 100000 in
theorem act_get_no (h : Jr w0 O F B R n st now lasts since w) (hr : Rel n st now lasts since) (hn : n ≤ 2048) (hs : since.length ≤ 99999) (a : Ac) (ha : a.ok w0) (hn1 : 1 ≤ n) (hk : a.k = 3) (hbr : a.b < 0 ∨ (n : Int) ≤ a.b) :
    Calls Try.prog 32 #[.pointer (some ⟨F, 0, none⟩), .pointer (some ⟨R, 0, none⟩), a.v] w fun e w' => e = .returned (.bool true) ∧ Ap w0 O F B R n (since.length + 1) w w' := by
  obtain ⟨x, b, d, odd, told, pa, pl, pc⟩ := a
  have hx := ha.x
  have hj := h.join (ba (br w) (.cells #[.int .i64 x, .int .i64 b, .int .u8 (d.toNat : Int), .bool odd, .bool told, .slice pa pl pc] 26)) w.heap.size (Nat.le_refl _) (by simp)
  have HO0 := Lib.hid (fun (k : Nat) (hk : O k) => h.lts k hk)
  have hb := Blk.new w #[.int .i64 x, .int .i64 b, .int .u8 (d.toNat : Int), .bool odd, .bool told, .slice pa pl pc] 26
  simp [Lit.wf, IntKind.min, IntKind.max, IntKind.signed, IntKind.bits] at hx
  unfold Ac.v
  unfold Ac.k at hk
  dsimp only at hx hk hbr ⊢
  have HKK := Lib.hid hk
  have HA := Lib.hid ha
  have HBR := Lib.hid hbr
  obtain ⟨s, hse⟩ : ∃ s, s = sect d odd := ⟨_, rfl⟩
  have hsec := psector hj d odd
  rw [← hse] at hsec
  have HSEC := Lib.hid hsec
  have HB := Lib.hid hb
  have HH := Lib.hid (And.intro hr hs)
  clear h hr hs ha hj hb hk hsec hse hbr
  go_enter Try.func32, Try.ntmps32
  go_wp2_with fail
  refine HSEC.out.mono ?_
  rintro e w1 ⟨rfl, h1, o1⟩
  have hb1 : Blk w1 w.heap.size #[.int .i64 x, .int .i64 b, .int .u8 (d.toNat : Int), .bool odd, .bool told, .slice pa pl pc] 26 := (o1 _ (.inr rfl)).trans HB.out
  have ho1 := Lib.hid (fun (k : Nat) (hk : O k) => (o1 k (.inl hk)).trans (Below.heap_alloc _ _ _ (HO0.out k hk)))
  have c0 := Blk.cell hb1 0
  go_upto_region 2 with fail
  go_cut [25] (fun s25 wx => s25 = .int .i64 3 ∧ wx = w1)
  case first =>
    go_wp2
    go_meet
    case rel => exact ⟨by rw [kmod, HKK.out], rfl⟩
  case rest =>
    obtain ⟨rfl, rfl⟩ := hcut
    have d1 := Blk.cell hb1 1
    clear c0 o1
    have HG := Lib.hid (pget_no h1 HH.out.1 hn (by have := HH.out.2; omega) b HBR.out)
    go_wp2_with fail
    refine HG.out.mono ?_
    rintro e w2 ⟨rfl, h2, o2⟩
    have hb2 : Blk w2 w.heap.size #[.int .i64 x, .int .i64 b, .int .u8 (d.toNat : Int), .bool odd, .bool told, .slice pa pl pc] 26 := (o2 _ (.inr rfl)).trans hb1
    have ho2 := Lib.hid (fun (k : Nat) (hk : O k) => (o2 k (.inl hk)).trans (ho1.out k hk))
    have d2 := Blk.cell hb2 1
    obtain ⟨gN, cN, r1, r2, r3, r4⟩ := h2.rcell
    have hnl := HH.out.1.nl
    rw [hnl] at r1 r2
    have HM := fun (m : Nat) => pmay_no (h2.drawn ⟨m, rfl⟩).1 HH.out.1 hn (by have := HH.out.2; omega) b HBR.out s
    have HMM := Lib.hid HM
    have HB2 := Lib.hid hb2
    clear d1 HG hb1 h1 o2 r4 hnl HM hb2
    by_cases hb0 : 0 ≤ b
    · have g0 : decide ((0 : Int) ≤ b) = true := decide_eq_true hb0
      have g1 : decide (b < (n : Int)) = false := decide_eq_false (fun e => by have := HBR.out; omega)
      go_wp2
      go_quiet (fail)
      go_wp2_with fail
      refine (HMM.out _).mono ?_
      rintro e w3 ⟨rfl, h3, o3⟩
      go_wp2
      go_ret
      exact ⟨rfl, _, _, _, _, h3.other (fun k hk => .inl hk), HH.out.1, by omega, fun k hk => (o3 k (.inl hk)).trans (ho2.out k hk)⟩
    · have g0 : decide ((0 : Int) ≤ b) = false := decide_eq_false hb0
      go_wp2
      go_quiet (fail)
      go_wp2_with fail
      refine (HMM.out _).mono ?_
      rintro e w3 ⟨rfl, h3, o3⟩
      go_wp2
      go_ret
      exact ⟨rfl, _, _, _, _, h3.other (fun k hk => .inl hk), HH.out.1, by omega, fun k hk => (o3 k (.inl hk)).trans (ho2.out k hk)⟩
end
end Go.Proofs.Ytahdhkhgokggbaa.Judge
