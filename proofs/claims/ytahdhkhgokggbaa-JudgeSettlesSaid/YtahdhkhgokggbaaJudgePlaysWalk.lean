/- JudgePlays: behind every calls a flat disk answers, and has, what the document says, step by step; walked. -/
import Derived.Test.YtahdhkhgokggbaaActs
import Derived.Deep.RegionHeld3
namespace Go.Proofs.Ytahdhkhgokggbaa.JudgePlaysW
open Go.RowKit Go.Proofs.Ytahdhkhgokggbaa.Mem Go.Proofs.Ytahdhkhgokggbaa.Judge Go.Proofs.Ytahdhkhgokggbaa.Opn
open Go.Proofs.YtahdhkhgokggbaaW.PrintWords hiding bt
set_option linter.unusedVariables false
set_option linter.unusedSimpArgs false

/-- What the loop over the script keeps. -/
def At (w0 : World) (F B R n k : Nat) (w : World) : Prop := ∃ st now lasts since, Jr w0 (fun _ => False) F B R n st now lasts since w ∧ Rel n st now lasts since ∧ since.length ≤ k

theorem At.bel {w0 w : World} {F B R n k : Nat} (h : At w0 F B R n k w) : Below w0.heap.size w0 w := by
  obtain ⟨_, _, _, _, h, _⟩ := h; exact h.bel
/-- An act's cells, in a later world. -/
theorem act_cells {w0 w : World} (hb : Below w0.heap.size w0 w) {x : Addr} {k : Nat} {c : Ac} (h : ∀ j, j < 6 → w0.cell? (x.add (k * 6 + j)) = c.cells[j]?) :
    w.cell? (x.add (k * 6)) = some (.int .i64 c.x) ∧ w.cell? ⟨(x.add (k * 6)).block, (x.add (k * 6)).off + 1, none⟩ = some (.int .i64 c.b) ∧ w.cell? ⟨(x.add (k * 6)).block, (x.add (k * 6)).off + 2, none⟩ = some (.int .u8 (c.d.toNat : Int)) ∧
    w.cell? ⟨(x.add (k * 6)).block, (x.add (k * 6)).off + 3, none⟩ = some (.bool c.odd) ∧ w.cell? ⟨(x.add (k * 6)).block, (x.add (k * 6)).off + 4, none⟩ = some (.bool c.told) ∧ w.cell? ⟨(x.add (k * 6)).block, (x.add (k * 6)).off + 5, none⟩ = some (.slice c.pa c.pl c.pc) := by
  have key : ∀ j v, j < 6 → c.cells[j]? = some v → w.cell? ((x.add (k * 6)).add j) = some v := fun j v hj hv => by
    have h1 := h j hj
    rw [hv] at h1
    rw [Opn.add_add, hb.cell (World.block_lt_of_cell? w0 _ h1)]; exact h1
  exact ⟨key 0 _ (by omega) rfl, key 1 _ (by omega) rfl, key 2 _ (by omega) rfl, key 3 _ (by omega) rfl, key 4 _ (by omega) rfl, key 5 _ (by omega) rfl⟩
section
variable {w0 w : World} {O : Nat → Prop} {F B R n : Nat} {st : St} {now lasts : List ByteArray} {since : Since}
theorem bdrawn {a b : World} (h : Drawn0 a b) : Below a.heap.size a b := by obtain ⟨m, rfl⟩ := h; exact bd (br _) _
theorem dget (h : Jr w0 O F B R n st now lasts since w) (hn : n ≤ 2048) (i : Nat) (x : ByteArray × List ByteArray) (hx : st[i]? = some x) :
    Calls Try.prog 19 #[.pointer (some ⟨F, 0, none⟩), .int .i64 (i : Nat)] w fun e w' => e = .returned (.tuple #[.string x.1, .int .i64 0]) ∧ Below w.heap.size w w' := by
  obtain ⟨P, C, v, g, Q, vN, vL, vS, gN, gL, h1, h2, h3, h4, h5, h6, h7⟩ := h
  refine (get_yes h1 (by omega) i x hx).mono ?_
  rintro e w' ⟨rfl, k⟩
  exact ⟨rfl, bdrawn k⟩
theorem dways (h : Jr w0 O F B R n st now lasts since w) (hr : Rel n st now lasts since) (hn : n ≤ 2048) (hs : since.length ≤ 100000) (i : Nat) (hi : i < n) : ∃ m : Int,
    (Calls Try.prog 33 #[.pointer (some ⟨F, 0, none⟩), .int .i64 (i : Nat)] w fun e w' => e = .returned (.int .i64 m) ∧ Below w.heap.size w w') ∧
    ∀ w1, Below w.heap.size w w1 → Calls Try.prog 34 #[.pointer (some ⟨R, 0, none⟩), .int .i64 (i : Nat)] w1 fun e w' => e = .returned (.int .i64 m) ∧ Below w.heap.size w w' := by
  have hh := h
  have hnl := hr.nl
  have hll := hr.ll
  obtain ⟨x, hx⟩ : ∃ x, st[i]? = some x := ⟨_, List.getElem?_eq_getElem (by rw [hr.sl]; omega)⟩
  obtain ⟨_, t, ht, e⟩ := hr.each i x hx
  obtain ⟨P, C, v, g, Q, vN, vL, vS, gN, gL, h1, h2, h3, h4, h5, h6, h7⟩ := h
  refine ⟨x.2.length, (ways_yes h1 (by omega) i x hx).mono ?_, fun w1 hb => ?_⟩
  · rintro e w' ⟨rfl, k⟩
    exact ⟨rfl, bdrawn k⟩
  · rw [e]
    obtain ⟨P, C, v, g, Q, vN, vL, vS, gN, gL, h1, h2, h3, h4, h5, h6, h7⟩ := (hh.below hb).1
    refine (rways_yes h2 (fun k hk => (h5 k hk).1.2) i (by have := (List.getElem?_eq_some_iff.1 ht).1; omega) (by omega) hs t ht).mono ?_
    rintro e w' ⟨rfl, k⟩
    exact ⟨rfl, bt hb k⟩
end
theorem mod40 (a : Int) : ∃ n : Nat, n < 40 ∧ max 0 a % 40 = n := ⟨(max 0 a % 40).toNat, by omega, by omega⟩

set_option maxHeartbeats 8000000 in
set_option maxRecDepth 100000 in
theorem walk (a0 : Int) (a1 : Option Addr) (len1 cap1 : Nat) (w : World) (f0 : (Lit.int .i64 a0).wf = true) (f1 : Rd w (.slice 6 48 actSh) [.slice a1 len1 cap1]) :
    Calls Try.prog 6 #[.int .i64 a0, .slice a1 len1 cap1] w fun e w' => e = .returned (.bool true) ∧ Below w.heap.size w w' := by
  obtain ⟨hlc, hcm, hacts⟩ := rd_acts f1
  obtain ⟨n, hn40, hn⟩ := mod40 a0
  have HN := Lib.hid hn
  have HA := Lib.hid hacts
  clear hn f1 hacts
  simp [Lit.wf, IntKind.min, IntKind.max, IntKind.signed, IntKind.bits] at f0
  go_enter Try.func6, Try.ntmps6
  go_upto_region 1 with fail
  go_cut [0] (fun s0 wx => s0 = .int .i64 (n : Nat) ∧ w = wx)
  case first =>
    go_wp2
    go_meet
    case rel => exact ⟨by rw [← HN.out], rfl⟩
  case rest =>
    obtain ⟨rfl, rfl⟩ := hcut
    clear f0
    by_cases hn0 : n = 0
    · subst hn0
      go_wp2_with fail
      refine (new_no 0 (by omega) _).mono ?_
      rintro e w1 ⟨rfl, ⟨n1, rfl⟩⟩
      go_wp2_with fail
      refine (rnew_no 0 (by omega) _).mono ?_
      rintro e w2 ⟨rfl, ⟨n2, rfl⟩⟩
      go_wp2_with fail
      refine (wakes_calls _).mono ?_
      rintro e w3 ⟨rfl, b3⟩
      go_wp2_with fail
      refine (blocks_nil _).mono ?_
      rintro e w4 ⟨rfl, ⟨n4, rfl⟩⟩
      go_wp2
      go_ret
      exact ⟨rfl, bd (bt (bd (br _) _) b3) _⟩
    · go_wp2_with fail
      refine (jnew n (by omega) (by omega) (br _)).mono ?_
      rintro e w1 ⟨F, B, rfl, j1⟩
      go_wp2_with fail
      refine (rnew_yes n (by omega) (by omega) _).mono ?_
      rintro e w2 ⟨rfl, vN, vL, j2⟩
      have h2 := pboth n (by omega) (by omega) j1 j2
      have HR0 := Lib.hid (Rel.fresh n)
      generalize w1.heap.size = R at h2 ⊢
      clear j1 j2
      go_wp2_with fail
      refine (wakes_calls _).mono ?_
      rintro e w3 ⟨rfl, b3⟩
      have h3 := (h2.below b3).1
      clear h2 b3
      go_wp2_with fail
      refine (pblocks h3 HR0.out (by omega) (by simp)).mono ?_
      rintro e w4 ⟨rfl, h4, _⟩
      clear h3
      go_upto_region 8 with fail
      go_cut [54, 55, 56] (fun s54 s55 s56 wx => ∃ m c' : Nat, m ≤ len1 ∧ m ≤ 60 ∧ s54 = .slice a1 m c' ∧ s55 = .int .i64 m ∧ s56 = .int .i64 0 ∧ w4 = wx)
      case first =>
        have hl : (0 : Int) ≤ (len1 : Int) := by omega
        by_cases hm : len1 ≤ 60
        · have e1 : min (len1 : Int) 60 = len1 := by omega
          go_wp2
          go_meet
          case rel => exact ⟨len1, cap1, by omega, by omega, rfl, rfl, rfl, rfl⟩
        · have e1 : min (len1 : Int) 60 = 60 := by omega
          have e2 : (60 : Nat) ≤ cap1 := by omega
          go_wp2
          go_meet
          case rel => exact ⟨60, cap1, by omega, by omega, rfl, rfl, rfl, rfl⟩
      case rest =>
        obtain ⟨m, c', hm1, hm2, rfl, rfl, rfl, rfl⟩ := hcut
        have h4' := h4
        clear h4
        go_wp2
        go_loopw [56] (fun i wr => ∃ k : Nat, k ≤ m ∧ i = .int .i64 k ∧ Hid (At w F B R n k wr)) (fun i _ => m - (intOf i).toNat)
        case atStart => exact ⟨0, Nat.zero_le _, rfl, Lib.hid ⟨_, _, _, _, h4', HR0.out, by simp⟩⟩
        case round =>
          obtain ⟨k, hk, rfl, HAT⟩ := hrel
          by_cases hlt : k < m
          · have dlt : decide ((k : Int) < (m : Int)) = true := decide_eq_true (by omega)
            obtain ⟨x, c, rfl, hok, hcell⟩ := HA.out k (by omega)
            have hAt := HAT.out
            obtain ⟨e0, e1, e2, e3, e4, e5⟩ := act_cells hAt.bel hcell
            obtain ⟨cX, cb, cd, co, ct, pa, pl, pc⟩ := c
            dsimp only at e0 e1 e2 e3 e4 e5
            clear hcell hAt
            go_wp2
            obtain ⟨st, now, lasts, since, h1, r1, l1⟩ := HAT.out
            have hj := (h1.join (ba (br wr) (.cells #[.int .i64 cX, .int .i64 cb, .int .u8 (cd.toNat : Int), .bool co, .bool ct, .slice pa pl pc] 26)) wr.heap.size (Nat.le_refl _) (by simp)).other (O' := fun k => k = wr.heap.size) (fun k hk => .inr hk)
            have hj := (hj.below (bd1 (br _))).1
            have hb1 : Blk (World.drew _) wr.heap.size #[.int .i64 cX, .int .i64 cb, .int .u8 (cd.toNat : Int), .bool co, .bool ct, .slice pa pl pc] 26 := (Blk.new wr #[.int .i64 cX, .int .i64 cb, .int .u8 (cd.toNat : Int), .bool co, .bool ct, .slice pa pl pc] 26).drew
            have hact := act_calls hj r1 (by omega) (by omega) (by omega) ⟨cX, cb, cd, co, ct, pa, pl, pc⟩ hok
            unfold Ac.v at hact
            dsimp only at hact
            have HACT := Lib.hid hact
            clear hact
            have HL := Lib.hid (And.intro l1 (And.intro hm2 hk))
            clear e0 e1 e2 e3 e4 e5 h1 r1 l1 hok hj
            generalize wr.heap.size = q at hb1 HACT ⊢
            go_upto_region 11 with fail
            go_cut [4, 75] (fun s4 s75 wx => s75 = .bool false ∧ Hid (At w F B R n (k + 1) wx))
            case first =>
              go_region_held3 (fun w' => w'.cell? ⟨q, 0, none⟩ = some (.int .i64 cX) ∧ w'.cell? ⟨q, 1, none⟩ = some (.int .i64 cb) ∧ w'.cell? ⟨q, 2, none⟩ = some (.int .u8 (cd.toNat : Int)) ∧ w'.cell? ⟨q, 3, none⟩ = some (.bool co) ∧ w'.cell? ⟨q, 4, none⟩ = some (.bool ct) ∧ w'.cell? ⟨q, 5, none⟩ = some (.slice pa pl pc))
                (first | assumption | exact ⟨Blk.cell hb1 0, Blk.cell hb1 1, Blk.cell hb1 2, Blk.cell hb1 3, Blk.cell hb1 4, Blk.cell hb1 5⟩)
                (first
                  | (go_at_call 32; refine HACT.out.mono ?_; rintro e w2 ⟨rfl, st2, now2, lasts2, since2, h2, r2, l2, o2⟩; have hb1 := (o2 _ rfl).trans hb1; obtain ⟨mm, W1, W2⟩ := both_ways (O := fun k => k = q) (w0 := w) (F := F) (B := B) (R := R) r2 (by omega) (by have := HL.out; omega) cb)
                  | (go_at_call 33; refine (W1 _ h2).mono ?_; rintro e w3 ⟨rfl, h2, o2⟩; have hb1 := (o2 _ rfl).trans hb1)
                  | (go_at_call 34; refine (W2 _ h2).mono ?_; rintro e w3 ⟨rfl, h2, o2⟩; have hb1 := (o2 _ rfl).trans hb1))
              all_goals go_wp2
              all_goals go_meet
              case rel => exact ⟨rfl, Lib.hid ⟨_, _, _, _, h2.other (fun k hk => hk.elim), r2, by have := HL.out; omega⟩⟩
            case rest =>
              obtain ⟨rfl, HAT2⟩ := hcut
              go_wp2
              go_roundw
              case measure => simp [intOf]; omega
              case rel => exact ⟨k + 1, by omega, by go_num, HAT2⟩
          · obtain rfl : k = m := by omega
            have dlt : decide ((k : Int) < (k : Int)) = false := decide_eq_false (by omega)
            obtain ⟨st, now, lasts, since, h1, r1, l1⟩ := HAT.out
            have HR := Lib.hid (And.intro r1 l1)
            obtain ⟨gN, cN, c1, c2, c3, c4⟩ := h1.rcell
            rw [r1.nl] at c1
            have HC := Lib.hid c4
            have HJ := Lib.hid h1
            clear r1 l1 c2 c3 c4 HA h1
            go_wp2
            go_loopw [82] (fun i wx => ∃ j : Nat, j ≤ n ∧ i = .int .i64 j ∧ Below wr.heap.size wr wx) (fun i _ => n - (intOf i).toNat)
            case atStart => exact ⟨0, Nat.zero_le _, rfl, br _⟩
            case round =>
              obtain ⟨j, hj, rfl, hb2⟩ := hrel
              by_cases hjn : j < n
              · have djn : decide ((j : Int) < (n : Int)) = true := decide_eq_true (by omega)
                obtain ⟨y, hy⟩ : ∃ y, st[j]? = some y := ⟨_, List.getElem?_eq_getElem (by rw [HR.out.1.sl]; exact hjn)⟩
                have hc := HC.out j y.1 (HR.out.1.each j y hy).1
                have hc2 := (hb2.cell (p := ⟨gN, j, none⟩) (World.block_lt_of_cell? _ _ hc)).trans hc
                have HG := Lib.hid (dget (HJ.out.below hb2).1 (by omega) j y hy)
                obtain ⟨y1, hye⟩ : ∃ y1, y1 = y.1 := ⟨_, rfl⟩
                rw [← hye] at hc2 HG
                clear hc hy hye
                go_wp2_with fail
                refine HG.out.mono ?_
                rintro e w5 ⟨rfl, b5⟩
                have h5 := (HJ.out.below (bt hb2 b5)).1
                obtain ⟨mm, W1, W2⟩ := dways h5 HR.out.1 (by omega) (by have := HR.out.2; omega) j hjn
                have HW := Lib.hid (And.intro W1 W2)
                clear W1 W2 HG hc2 h5
                go_wp2_with fail
                refine HW.out.1.mono ?_
                rintro e w6 ⟨rfl, b6⟩
                go_wp2_with fail
                refine (HW.out.2 _ b6).mono ?_
                rintro e w7 ⟨rfl, b7⟩
                go_wp2
                go_roundw
                case measure => simp [intOf]; omega
                case rel => exact ⟨j + 1, by omega, by go_num, bt (bt hb2 b5) b7⟩
              · obtain rfl : j = n := by omega
                have djn : decide ((j : Int) < (j : Int)) = false := decide_eq_false (by omega)
                go_wp2
                go_ret
                exact ⟨rfl, (HJ.out.below hb2).1.bel⟩
end Go.Proofs.Ytahdhkhgokggbaa.JudgePlaysW
