/- JudgeSettles: behind Settle each block is read as it says, and is so in one way alone; walked. -/
import Derived.Test.YtahdhkhgokggbaaJudgePlaysWalk
namespace Go.Proofs.Ytahdhkhgokggbaa.JudgeSettlesW
open Go.RowKit Go.Proofs.Ytahdhkhgokggbaa.Mem Go.Proofs.Ytahdhkhgokggbaa.Judge Go.Proofs.Ytahdhkhgokggbaa.Opn
open Go.Proofs.YtahdhkhgokggbaaW.PrintWords hiding bt
set_option linter.unusedVariables false
set_option linter.unusedSimpArgs false
open Go.Proofs.Ytahdhkhgokggbaa.JudgePlaysW (At At.bel act_cells bdrawn dget)

theorem mod6 (b : Int) : ∃ j : Nat, j < 6 ∧ max 0 b % 6 = j := ⟨(max 0 b % 6).toNat, by omega, by omega⟩
theorem row_p {w : World} {a : Option Addr} {len cap : Nat} {zs : List Int} (h : IsRow .u8 w a len cap zs) : len ≤ cap ∧ cap ≤ 9223372036854775807 ∧ ∀ j, j < len → ∃ (x : Addr) (m : Nat), a = some x ∧ m < 256 ∧ w.cell? (x.add j) = some (.int .u8 (m : Nat)) := by
  rcases h with ⟨_, rfl, rfl, _⟩ | ⟨x, rfl, h1, h2, h3, h4, h5⟩
  · exact ⟨Nat.le_refl _, by omega, fun j hj => by omega⟩
  · refine ⟨h1, by unfold maxLen at h2; omega, fun j hj => ?_⟩
    have hc := h4 j (by omega)
    have hw := h5 (zs.getD j 0) (by rw [List.getD_eq_getElem?_getD, List.getElem?_eq_getElem (by omega)]; exact List.getElem_mem _)
    obtain ⟨m, hm, hm2⟩ := wf_byte hw
    rw [hm] at hc
    exact ⟨x, m, rfl, hm2, hc⟩
theorem fits_of {n : Nat} {lasts : List ByteArray} {since : Since} {L : List ByteArray} (hL : L.length = n) (hm : ∀ (i : Nat) s, L[i]? = some s → mayR lasts since i s = true) : fitBR lasts since L n = true := by
  unfold fitBR
  rw [decide_eq_true hL, Bool.true_and]
  have : firstBadR lasts since L n = none := by
    unfold firstBadR
    rw [List.find?_eq_none]
    intro i hi
    have hi2 := List.mem_range.1 hi
    unfold okR
    have hs : L[i]? = some (L.getD i ⟨#[]⟩) := by rw [List.getD_eq_getElem?_getD, List.getElem?_eq_getElem (by omega)]; rfl
    rw [hm i _ hs]; decide
  rw [this]; rfl
section
variable {w0 w : World} {O : Nat → Prop} {F B R n : Nat} {st : St} {now lasts : List ByteArray} {since : Since}
theorem eways (h : Jr w0 O F B R n st now lasts since w) (hn : n ≤ 2048) (i : Nat) (x : ByteArray × List ByteArray) (hx : st[i]? = some x) :
    Calls Try.prog 33 #[.pointer (some ⟨F, 0, none⟩), .int .i64 (i : Nat)] w fun e w' => e = .returned (.int .i64 x.2.length) ∧ Below w.heap.size w w' := by
  obtain ⟨P, C, v, g, Q, vN, vL, vS, gN, gL, h1, h2, h3, h4, h5, h6, h7⟩ := h
  refine (ways_yes h1 (by omega) i x hx).mono ?_
  rintro e w' ⟨rfl, k⟩
  exact ⟨rfl, bdrawn k⟩
theorem emay (h : Jr w0 O F B R n st now lasts since w) (hn : n ≤ 2048) (i : Nat) (x : ByteArray × List ByteArray) (hx : st[i]? = some x) (s : ByteArray) :
    Calls Try.prog 36 #[.pointer (some ⟨F, 0, none⟩), .int .i64 (i : Nat), .string s] w fun e w' => e = .returned (.bool (has s x.2)) ∧ Below w.heap.size w w' := by
  obtain ⟨P, C, v, g, Q, vN, vL, vS, gN, gL, h1, h2, h3, h4, h5, h6, h7⟩ := h
  refine (may_yes h1 (by omega) i x hx s).mono ?_
  rintro e w' ⟨rfl, k⟩
  exact ⟨rfl, bdrawn k⟩
end
set_option maxHeartbeats 8000000 in
set_option maxRecDepth 100000 in
theorem walk (a0 : Option Addr) (len0 cap0 : Nat) (a1 : Option Addr) (len1 cap1 : Nat) (zs : List Int) (w : World) (f0 : Rd w (.slice 6 48 actSh) [.slice a0 len0 cap0]) (f1 : IsRow .u8 w a1 len1 cap1 zs) :
    Calls Try.prog 8 #[.slice a0 len0 cap0, .slice a1 len1 cap1] w fun e w' => e = .returned (.bool true) ∧ Below w.heap.size w w' := by
  obtain ⟨hlc, hcm, hacts⟩ := rd_acts f0
  obtain ⟨p1, p2, p3⟩ := row_p f1
  have HP : Hid (Ac.ok ⟨0, 0, 0, false, false, a1, len1, cap1⟩ w) := Lib.hid ⟨by show (Lit.int .i64 0).wf = true; decide, by show (Lit.int .i64 0).wf = true; decide, p1, p2, p3⟩
  have HA := Lib.hid hacts
  clear f0 f1 hacts p1 p2 p3
  go_enter Try.func8, Try.ntmps8
  go_wp2_with fail
  refine (jnew 6 (by omega) (by omega) (br _)).mono ?_
  rintro e w1 ⟨F, B, rfl, j1⟩
  go_wp2_with fail
  refine (rnew_yes 6 (by omega) (by omega) _).mono ?_
  rintro e w2 ⟨rfl, vN, vL, j2⟩
  have h2 := pboth 6 (by omega) (by omega) j1 j2
  have HR0 := Lib.hid (Rel.fresh 6)
  generalize w1.heap.size = R at h2 ⊢
  clear j1 j2
  go_wp2_with fail
  refine (wakes_calls _).mono ?_
  rintro e w3 ⟨rfl, b3⟩
  have h4 := (h2.below b3).1
  clear h2 b3
  go_upto_region 5 with fail
  go_cut [36, 37, 38] (fun s36 s37 s38 wx => ∃ m c' : Nat, m ≤ len0 ∧ m ≤ 40 ∧ s36 = .slice a0 m c' ∧ s37 = .int .i64 m ∧ s38 = .int .i64 0 ∧ w3 = wx)
  case first =>
    have hl : (0 : Int) ≤ (len0 : Int) := by omega
    by_cases hm : len0 ≤ 40
    · have e1 : min (len0 : Int) 40 = len0 := by omega
      go_wp2
      go_meet
      case rel => exact ⟨len0, cap0, by omega, by omega, rfl, rfl, rfl, rfl⟩
    · have e1 : min (len0 : Int) 40 = 40 := by omega
      have e2 : (40 : Nat) ≤ cap0 := by omega
      go_wp2
      go_meet
      case rel => exact ⟨40, cap0, by omega, by omega, rfl, rfl, rfl, rfl⟩
  case rest =>
    obtain ⟨m, c', hm1, hm2, rfl, rfl, rfl, rfl⟩ := hcut
    have h4' := h4
    clear h4
    go_wp2
    go_loopw [38] (fun i wr => ∃ k : Nat, k ≤ m ∧ i = .int .i64 k ∧ Hid (At w F B R 6 k wr)) (fun i _ => m - (intOf i).toNat)
    case atStart => exact ⟨0, Nat.zero_le _, rfl, Lib.hid ⟨_, _, _, _, h4', HR0.out, by simp⟩⟩
    case round =>
      obtain ⟨k, hk, rfl, HAT⟩ := hrel
      by_cases hlt : k < m
      · have dlt : decide ((k : Int) < (m : Int)) = true := decide_eq_true (by omega)
        obtain ⟨x, c, rfl, hok, hcell⟩ := HA.out k (by omega)
        have hAt := HAT.out
        obtain ⟨e0, e1, e2, e3, e4, e5⟩ := act_cells hAt.bel hcell
        obtain ⟨cX, cb, cd, co, ct, pa, pl, pc⟩ := c
        dsimp only at e0 e1 e2 e3 e4 e5
        have hbw := hok.b
        clear hcell hAt
        go_wp2
        obtain ⟨st, now, lasts, since, h1, r1, l1⟩ := HAT.out
        have hj := (h1.join (ba (br wr) (.cells #[.int .i64 cX, .int .i64 cb, .int .u8 (cd.toNat : Int), .bool co, .bool ct, .slice pa pl pc] 26)) wr.heap.size (Nat.le_refl _) (by simp)).other (O' := fun k => k = wr.heap.size) (fun k hk => .inr hk)
        have hj := (hj.below (bd1 (br _))).1
        have hb1 : Blk (World.drew _) wr.heap.size #[.int .i64 cX, .int .i64 cb, .int .u8 (cd.toNat : Int), .bool co, .bool ct, .slice pa pl pc] 26 := (Blk.new wr #[.int .i64 cX, .int .i64 cb, .int .u8 (cd.toNat : Int), .bool co, .bool ct, .slice pa pl pc] 26).drew
        have HS := Lib.hid (psector hj cd false)
        obtain ⟨j, hj6, hje⟩ := mod6 cb
        have HJE := Lib.hid hje
        have HL := Lib.hid (And.intro r1 (And.intro l1 (And.intro hm2 hk)))
        simp [Lit.wf, IntKind.min, IntKind.max, IntKind.signed, IntKind.bits] at hbw
        clear e0 e1 e2 e3 e4 e5 h1 r1 l1 hok hj hje
        generalize wr.heap.size = q at hb1 HS ⊢
        go_upto_region 8 with fail
        go_cut [11, 12] (fun s11 s12 wx => s11 = .int .i64 (j : Nat) ∧ s12 = .string (sect cd false) ∧ Jr w (fun k => k = q) F B R 6 st now lasts since wx ∧ Blk wx q #[.int .i64 cX, .int .i64 cb, .int .u8 (cd.toNat : Int), .bool co, .bool ct, .slice pa pl pc] 26)
        case first =>
          go_region_held3 (fun w' => w'.cell? ⟨q, 1, none⟩ = some (.int .i64 cb) ∧ w'.cell? ⟨q, 2, none⟩ = some (.int .u8 (cd.toNat : Int)))
            (first | assumption | exact ⟨Blk.cell hb1 1, Blk.cell hb1 2⟩)
            (first | (go_at_call 17; refine HS.out.mono ?_; rintro e w2 ⟨rfl, h2, o2⟩; have hb1 := (o2 _ rfl).trans hb1))
          all_goals go_wp2
          all_goals go_meet
          all_goals exact ⟨by rw [← HJE.out]; first | rfl | exact congrArg (Value.int .i64) (Int.tmod_eq_emod_of_nonneg (by omega)), rfl, h2, hb1⟩
        case rest =>
          obtain ⟨rfl, rfl, h2, hb2⟩ := hcut
          obtain ⟨s, hse⟩ : ∃ s, s = sect cd false := ⟨_, rfl⟩
          have hE : putE 6 (j : Nat) s = 0 := by unfold putE; rw [if_neg (by omega), if_pos (by rw [hse, sect_size]; rfl)]
          have hp1 := pput h2 (by omega) HL.out.1.sl (fun x hx => by have := HL.out.1.few x hx; have := HL.out.2; omega) (j : Nat) s ct
          rw [hE] at hp1
          have HP1 := Lib.hid hp1
          have c4 := Blk.cell hb2 4
          rw [← hse]
          have HSE := Lib.hid (And.intro hse hE)
          clear hse hE hp1 h2 HS HJE
          go_wp2_with fail
          refine HP1.out.mono ?_
          rintro e w2 ⟨rfl, h3, o3⟩
          have hb3 : Blk w2 q #[.int .i64 cX, .int .i64 cb, .int .u8 (cd.toNat : Int), .bool co, .bool ct, .slice pa pl pc] 26 := (o3 _ rfl).trans hb2
          have d4 := Blk.cell hb3 4
          have hp2 := prwrite h3 (by omega) (by have := HL.out.2; omega) HL.out.1.nl HL.out.1.ll (j : Nat) s ct
          rw [HSE.out.2] at hp2
          have HP2 := Lib.hid hp2
          clear hp2 c4 hb2 HP1 h3 hb3 o3
          go_wp2_with fail
          refine HP2.out.mono ?_
          rintro e w3 ⟨rfl, h4, o4⟩
          have HAT2 : Hid (At w F B R 6 (k + 1) w3) := Lib.hid ⟨_, _, _, _, h4.other (fun k hk => hk.elim), HL.out.1.put (j : Nat) s ct, by have := sinceR_le now since (j : Nat) s; have := HL.out.2.1; omega⟩
          clear h4 o4 d4
          go_wp2
          go_roundw
          case measure => simp [intOf]; omega
          case rel => exact ⟨k + 1, by omega, by go_num, HAT2⟩
      · obtain rfl : k = m := by omega
        have dlt : decide ((k : Int) < (k : Int)) = false := decide_eq_false (by omega)
        obtain ⟨st, now, lasts, since, h1, r1, l1⟩ := HAT.out
        have HR := Lib.hid (And.intro r1 l1)
        have HPA := Lib.hid (pall h1 (by omega) (by omega) r1 _ HP.out)
        have HJ := Lib.hid h1
        clear r1 l1 HA h1
        go_wp2_with fail
        refine HPA.out.mono ?_
        rintro e w2 ⟨L, v, rfl, hL, hmay, hown, b2⟩
        obtain ⟨g, hO, hg⟩ := own_of hown (by omega)
        obtain ⟨c, rfl, hc, hc2⟩ := hO.shape
        have h2 := (HJ.out.join b2 g hg hO.lt).other (O' := fun k => k = g) (fun k hk => .inr hk)
        have hp := psettle h2 HR.out.1 (by omega) (by have := HR.out.2; omega) (some ⟨g, 0, none⟩) c L (by omega) hO.strs (fun x hx => by cases hx; rfl)
        have hfit := fits_of hL hmay
        have hE : settleE st L 6 = 0 := by unfold settleE; rw [HR.out.1.fitB L, hfit]; rfl
        have hS : settleS st L 6 = L.map fun s => (s, [s]) := by unfold settleS; rw [HR.out.1.fitB L, hfit]; exact settled_full st L 6 HR.out.1.sl hL
        rw [hE, hS, hL] at hp
        have HP3 := Lib.hid hp
        have HO := Lib.hid (And.intro hO hL)
        rw [hL]
        clear hp hE hS hfit h2 hO hown hmay hL b2 hc HPA
        go_wp2_with fail
        refine HP3.out.mono ?_
        rintro e w3 ⟨rfl, h3, o3⟩
        have HO3 := Lib.hid (HO.out.1.same (o3 g rfl))
        have HJ3 := Lib.hid h3
        clear h3 o3 HP3 HJ
        go_wp2
        go_loopw [75] (fun i wx => ∃ j : Nat, j ≤ 6 ∧ i = .int .i64 j ∧ Below w3.heap.size w3 wx) (fun i _ => 6 - (intOf i).toNat)
        case atStart => exact ⟨0, Nat.zero_le _, rfl, br _⟩
        case round =>
          obtain ⟨j, hj, rfl, hb2⟩ := hrel
          by_cases hjn : j < 6
          · have djn : decide ((j : Int) < 6) = true := decide_eq_true (by omega)
            have ijn : (j : Int) < 6 := by omega
            obtain ⟨y, hy⟩ : ∃ y, L[j]? = some y := ⟨_, List.getElem?_eq_getElem (by rw [HO.out.2]; exact hjn)⟩
            have hc := HO3.out.cell hy
            have hc2 := (hb2.cell (p := ⟨g, j, none⟩) (World.block_lt_of_cell? _ _ hc)).trans hc
            have hx : (L.map fun s => (s, [s]))[j]? = some (y, [y]) := by rw [List.getElem?_map, hy]; rfl
            have HG := Lib.hid (dget (HJ3.out.below hb2).1 (by omega) j _ hx)
            have HX := Lib.hid hx
            clear hc hy hx
            go_wp2_with fail
            refine HG.out.mono ?_
            rintro e w5 ⟨rfl, b5⟩
            have b5' := bt hb2 b5
            have HW := Lib.hid (eways (HJ3.out.below b5').1 (by omega) j _ HX.out)
            clear HG hc2
            go_wp2_with fail
            refine HW.out.mono ?_
            rintro e w6 ⟨rfl, b6⟩
            have b6' := bt b5' b6
            have hM := emay (HJ3.out.below b6').1 (by omega) j _ HX.out y
            rw [show has y (y, [y]).2 = true from (has_iff y [y]).2 (List.mem_singleton.2 rfl)] at hM
            have HM := Lib.hid hM
            clear hM HW
            go_wp2_with fail
            refine HM.out.mono ?_
            rintro e w7 ⟨rfl, b7⟩
            go_wp2
            go_roundw
            case measure => simp [intOf]; omega
            case rel => exact ⟨j + 1, by omega, by go_num, bt b6' b7⟩
          · obtain rfl : j = 6 := by omega
            go_wp2
            go_ret
            exact ⟨rfl, (HJ3.out.below hb2).1.bel⟩
end Go.Proofs.Ytahdhkhgokggbaa.JudgeSettlesW
