/- One call of both disks: Get and May; walked. -/
import Derived.Test.YtahdhkhgokggbaaAct28G
import Derived.Deep.RegionHeld3
namespace Go.Proofs.Ytahdhkhgokggbaa.Judge
open Go.RowKit Go.Proofs.Ytahdhkhgokggbaa.Mem
open Go.Proofs.YtahdhkhgokggbaaW.PrintWords hiding bt
set_option linter.unusedVariables false
set_option linter.unusedSimpArgs false

section
variable {w0 w : World} {O : Nat → Prop} {F B R n : Nat} {st : St} {now lasts : List ByteArray} {since : Since}
theorem drawn_trans {a b c : World} (h : Drawn0 a b) (k : Drawn0 b c) : Drawn0 a c := by
  obtain ⟨m, rfl⟩ := h
  obtain ⟨l, rfl⟩ := k
  exact ⟨m + l, by simp [World.drewN, Nat.add_assoc]⟩
theorem Jr.mayd {O : Nat → Prop} (h : Jr w0 O F B R n st now lasts since w) (hr : Rel n st now lasts since) (hn : n ≤ 2048) (hs : since.length ≤ 100000) (i : Nat) (x : ByteArray × List ByteArray) (hx : st[i]? = some x) (s : ByteArray) : ∀ wx, Drawn0 w wx →
    Calls Try.prog 36 #[.pointer (some ⟨F, 0, none⟩), .int .i64 (i : Nat), .string s] wx fun e w' => e = .returned (.bool (mayR lasts since i s)) ∧ Drawn0 w w' := by
  intro wx hd
  obtain ⟨P, C, v, g, Q, vN, vL, vS, gN, gL, h1, _⟩ := (h.drawn hd).1
  rw [← hr.may hx s]
  refine (may_yes h1 (by omega) i x hx s).mono ?_
  rintro e w' ⟨rfl, k⟩
  exact ⟨rfl, drawn_trans hd k⟩
theorem Jr.rmayd {O : Nat → Prop} (h : Jr w0 O F B R n st now lasts since w) (hr : Rel n st now lasts since) (hn : n ≤ 2048) (hs : since.length ≤ 100000) (i : Nat) (hi : i < n) (s : ByteArray) : ∀ wx, Drawn0 w wx →
    Calls Try.prog 75 #[.pointer (some ⟨R, 0, none⟩), .int .i64 (i : Nat), .string s] wx fun e w' => e = .returned (.bool (mayR lasts since i s)) ∧ Drawn0 w w' := by
  intro wx hd
  have hnl := hr.nl
  have hll := hr.ll
  obtain ⟨P, C, v, g, Q, vN, vL, vS, gN, gL, h1, h2, _⟩ := (h.drawn hd).1
  refine (rmay_yes h2 i (by omega) (by omega) (by omega) s).mono ?_
  rintro e w' ⟨rfl, k⟩
  exact ⟨rfl, drawn_trans hd k⟩
set_option maxHeartbeats 8000000 in
set_option maxRecDepth 100000 in
theorem act_get_yes (h : Jr w0 O F B R n st now lasts since w) (hr : Rel n st now lasts since) (hn : n ≤ 2048) (hs : since.length ≤ 99999) (a : Ac) (ha : a.ok w0) (hn1 : 1 ≤ n) (hk : a.k = 3) (hbr : 0 ≤ a.b ∧ a.b < (n : Int)) :
    Calls Try.prog 32 #[.pointer (some ⟨F, 0, none⟩), .pointer (some ⟨R, 0, none⟩), a.v] w fun e w' => e = .returned (.bool true) ∧ Ap w0 O F B R n (since.length + 1) w w' := by
  obtain ⟨x, b, d, odd, told, pa, pl, pc⟩ := a
  have hx := ha.x
  have hj := h.join (ba (br w) (.cells #[.int .i64 x, .int .i64 b, .int .u8 (d.toNat : Int), .bool odd, .bool told, .slice pa pl pc] 26)) w.heap.size (Nat.le_refl _) (by simp)
  have HO0 := Lib.hid (fun (k : Nat) (hk : O k) => h.lts k hk)
  have hb := Blk.new w #[.int .i64 x, .int .i64 b, .int .u8 (d.toNat : Int), .bool odd, .bool told, .slice pa pl pc] 26
  simp [Lit.wf, IntKind.min, IntKind.max, IntKind.signed, IntKind.bits] at hx
  unfold Ac.v
  unfold Ac.k at hk
  dsimp only at hx hk hbr ⊢
  have HKK := Lib.hid hk
  have HA := Lib.hid ha
  have HBR := Lib.hid hbr
  obtain ⟨s, hse⟩ : ∃ s, s = sect d odd := ⟨_, rfl⟩
  have hsec := psector hj d odd
  rw [← hse] at hsec
  have HSEC := Lib.hid hsec
  have HB := Lib.hid hb
  have HH := Lib.hid (And.intro hr hs)
  clear h hr hs ha hj hb hk hsec hse hbr
  go_enter Try.func32, Try.ntmps32
  go_wp2_with fail
  refine HSEC.out.mono ?_
  rintro e w1 ⟨rfl, h1, o1⟩
  have hb1 : Blk w1 w.heap.size #[.int .i64 x, .int .i64 b, .int .u8 (d.toNat : Int), .bool odd, .bool told, .slice pa pl pc] 26 := (o1 _ (.inr rfl)).trans HB.out
  have ho1 := Lib.hid (fun (k : Nat) (hk : O k) => (o1 k (.inl hk)).trans (Below.heap_alloc _ _ _ (HO0.out k hk)))
  have c0 := Blk.cell hb1 0
  go_upto_region 2 with fail
  go_cut [25] (fun s25 wx => s25 = .int .i64 3 ∧ wx = w1)
  case first =>
    go_wp2
    go_meet
    case rel => exact ⟨by rw [kmod, HKK.out], rfl⟩
  case rest =>
    obtain ⟨rfl, rfl⟩ := hcut
    have d1 := Blk.cell hb1 1
    obtain ⟨j, hj⟩ : ∃ j : Nat, b = j := ⟨b.toNat, by have := HBR.out.1; omega⟩
    subst hj
    have hjn : j < n := by have := HBR.out.2; omega
    obtain ⟨y, hy⟩ : ∃ y, st[j]? = some y := ⟨_, List.getElem?_eq_getElem (by rw [HH.out.1.sl]; exact hjn)⟩
    have hy1 := (HH.out.1.each j y hy).1
    clear c0 o1
    have HG := Lib.hid (pget h1 HH.out.1 hn (by have := HH.out.2; omega) j y hy)
    have HY := Lib.hid (And.intro hy hy1)
    obtain ⟨y1, hye⟩ : ∃ y1, y1 = y.1 := ⟨_, rfl⟩
    rw [← hye] at HG hy1
    clear hy
    go_wp2_with fail
    refine HG.out.mono ?_
    rintro e w2 ⟨rfl, h2, o2⟩
    have hb2 : Blk w2 w.heap.size #[.int .i64 x, .int .i64 (j : Nat), .int .u8 (d.toNat : Int), .bool odd, .bool told, .slice pa pl pc] 26 := (o2 _ (.inr rfl)).trans hb1
    have ho2 := Lib.hid (fun (k : Nat) (hk : O k) => (o2 k (.inl hk)).trans (ho1.out k hk))
    have d2 := Blk.cell hb2 1
    obtain ⟨gN, cN, r1, r2, r3, r4⟩ := h2.rcell
    have r5 := r4 j y1 hy1
    have hnl := HH.out.1.nl
    rw [hnl] at r1 r2
    have hm1 := h2.mayd HH.out.1 hn (by have := HH.out.2; omega) j y HY.out.1 s
    have hm2 := h2.rmayd HH.out.1 hn (by have := HH.out.2; omega) j hjn s
    obtain ⟨bb, hbb⟩ : ∃ bb, bb = mayR lasts since j s := ⟨_, rfl⟩
    rw [← hbb] at hm1 hm2
    have HM1 := Lib.hid hm1
    have HM2 := Lib.hid hm2
    have HJ2 := Lib.hid h2
    have g0 : decide ((0 : Int) ≤ (j : Int)) = true := decide_eq_true (by omega)
    have g1 : decide ((j : Int) < (n : Int)) = true := decide_eq_true (by omega)
    have i1 : (j : Int) < (n : Int) := by omega
    have i0 : (0 : Int) ≤ (j : Int) := by omega
    clear d1 HG hb1 h1 o2 r4 hnl hb2 hm1 hm2 hbb hye hy1 h2
    go_wp2
    go_quiet (fail)
    go_wp2
    have hdd : ∀ wx, Drawn0 w2 wx → wx.cell? ⟨w.heap.size, 1, none⟩ = some (.int .i64 (j : Nat)) ∧ wx.cell? ⟨R, 0, none⟩ = some (.slice (some ⟨gN, 0, none⟩) n cN) ∧ wx.cell? ⟨gN, j, none⟩ = some (.string y1) ∧ Drawn0 w2 wx := fun wx hd => by obtain ⟨m, rfl⟩ := hd; exact ⟨d2, r1, r5, ⟨m, rfl⟩⟩
    have HDD := Lib.hid hdd
    clear hdd
    go_region_held3 (fun w' => w'.cell? ⟨w.heap.size, 1, none⟩ = some (.int .i64 (j : Nat)) ∧ w'.cell? ⟨R, 0, none⟩ = some (.slice (some ⟨gN, 0, none⟩) n cN) ∧ w'.cell? ⟨gN, j, none⟩ = some (.string y1) ∧ Drawn0 w2 w')
      (first | assumption | exact HDD.out _ (by assumption) | exact HDD.out _ ⟨_ + 1, rfl⟩ | exact HDD.out _ ⟨_, rfl⟩)
      (first
        | (go_at_call 36; refine (HM1.out _ (by first | assumption | exact (And.right (And.right (And.right (by assumption))))  )).mono ?_; rintro e w' ⟨rfl, hS'⟩)
        | (go_at_call 75; refine (HM2.out _ (by first | assumption | exact (And.right (And.right (And.right (by assumption)))))).mono ?_; rintro e w' ⟨rfl, hS'⟩))
    all_goals go_wp2
    all_goals go_ret
    all_goals exact ⟨rfl, _, _, _, _, ((HJ2.out).drawn (by assumption)).1.other (fun k hk => .inl hk), HH.out.1, by omega, fun k hk => (((HJ2.out).drawn (by assumption)).2 k (.inl hk)).trans (ho2.out k hk)⟩
end
end Go.Proofs.Ytahdhkhgokggbaa.Judge
