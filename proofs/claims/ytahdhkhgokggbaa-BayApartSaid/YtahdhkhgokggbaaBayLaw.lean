/- What the bay's law fixes; its lists of words; walked. -/
import Derived.Test.YtahdhkhgokggbaaBayActs
namespace Go.Proofs.Ytahdhkhgokggbaa.Bay
open Go.RowKit Go.Proofs.Ytahdhkhgokggbaa.Mem Go.Proofs.Ytahdhkhgokggbaa.Opn Go.Proofs.Ytahdhkhgokggbaa.Sep Go.Proofs.Ytahdhkhgokggbaa.Member
open Go.Proofs.YtahdhkhgokggbaaW.PrintWords hiding bt
set_option linter.unusedVariables false
set_option linter.unusedSimpArgs false

def bC (c : Bm) : Array Value := #[.int .i64 c.x, .int .i64 c.i, .int .i64 c.t, .int .u8 (c.d.toNat : Int), .bool c.odd, .slice c.ka c.KA.length c.kc]
section
variable {w0 w : World} {L : List Asn}
set_option maxHeartbeats 8000000 in
set_option maxRecDepth 100000 in
theorem lists_calls (h : Sp w0 L w) (c : Bm) (hok : c.ok w0) :
    Calls Try.prog 99 #[.agg (bC c)] w fun e w' => ∃ a c', e = .returned (.slice a (kept32 c.KA).length c') ∧ Sp w0 (row 44 1 (.slice a (kept32 c.KA).length c') (kept32 c.KA).length (slv (kept32 c.KA)) :: L) w' := by
  obtain ⟨i0, hi0, hz0, hz1, hz2⟩ := info_parts words_info
  have HOK := Lib.hid hok
  have h1 := (h.new (bC c) 96).nil 44 1
  obtain ⟨cx, ci, ct, cd, co, ka, kc, KA⟩ := c
  unfold bC at h1 ⊢
  dsimp only at h1 ⊢
  have hkl := hok.kl
  have hkc := hok.kc
  dsimp only at hkl hkc
  obtain ⟨len, hlen⟩ : ∃ len, len = KA.length := ⟨_, rfl⟩
  obtain ⟨n, hn⟩ : ∃ n, n = (kept32 KA).length := ⟨_, rfl⟩
  have hn2 : n = min len 32 := by rw [hn, hlen]; unfold kept32; rw [List.length_map, List.length_take, Nat.min_comm]
  rw [← hlen] at hkl h1 ⊢
  rw [← hn]
  have HN := Lib.hid (And.intro hn hlen)
  have HN2 := Lib.hid hn2
  clear hn2
  have H1 := Lib.hid h1
  clear h h1 hok hlen hn
  go_enter Try.func99, Try.ntmps99
  go_upto_region 2 with fail
  have h1 := H1.out
  obtain ⟨q, hq⟩ : ∃ q, q = w.heap.size := ⟨_, rfl⟩
  rw [← hq] at h1 ⊢
  generalize w.alloc (.cells #[.int .i64 cx, .int .i64 ci, .int .i64 ct, .int .u8 (cd.toNat : Int), .bool co, .slice ka len kc] 96) = w1 at h1 ⊢
  have c5 := (h1.blk (b := q) (C := #[.int .i64 cx, .int .i64 ci, .int .i64 ct, .int .u8 (cd.toNat : Int), .bool co, .slice ka len kc]) (T := 96) (List.mem_cons_of_mem _ (List.mem_cons_self ..))).cell 5
  have H1 := Lib.hid h1
  clear h1 hq
  go_cut [12, 13, 14] (fun x12 x13 x14 wx => ∃ c' : Nat, x12 = .slice ka n c' ∧ x13 = .int .i64 n ∧ x14 = .int .i64 0 ∧ w1 = wx)
  case first =>
    have hl : (0 : Int) ≤ (len : Int) := by omega
    by_cases hm : len ≤ 32
    · have e1 : min (len : Int) 32 = len := by omega
      obtain rfl : n = len := by have := HN2.out; omega
      go_wp2
      go_meet
      case rel => exact ⟨kc, rfl, rfl, rfl, rfl⟩
    · have e1 : min (len : Int) 32 = 32 := by omega
      have e2 : (32 : Nat) ≤ kc := by omega
      obtain rfl : n = 32 := by have := HN2.out; omega
      go_wp2
      go_meet
      case rel => exact ⟨kc, rfl, rfl, rfl, rfl⟩
  case rest =>
    obtain ⟨c', rfl, rfl, rfl, rfl⟩ := hcut
    clear c5
    have hnl : n ≤ len ∧ n ≤ 32 := by have := HN2.out; omega
    obtain ⟨hnl1, hnl2⟩ := hnl
    go_wp2
    go_loopw [3, 14] (fun x3 x14 wr => ∃ (k : Nat) (u : Value), k ≤ n ∧ x14 = .int .i64 k ∧ u = x3 ∧ Sp w0 (row 44 1 u k (slv ((kept32 KA).take k)) :: blk q #[.int .i64 cx, .int .i64 ci, .int .i64 ct, .int .u8 (cd.toNat : Int), .bool co, .slice ka len kc] 96 :: L) wr) (fun _ i _ => n - (intOf i).toNat)
    case atStart => exact ⟨0, .slice none 0 0, Nat.zero_le _, rfl, rfl, H1.out⟩
    case round =>
      clear H1
      obtain ⟨k, u, hk, rfl, rfl, h2⟩ := hrel
      by_cases hlt : k < n
      · have dlt : decide ((k : Int) < (n : Int)) = true := decide_eq_true (by omega)
        have i1 : (k : Int) < (n : Int) := by omega
        obtain ⟨x, hx⟩ : ∃ x, KA[k]? = some x := ⟨_, List.getElem?_eq_getElem (by rw [← HN.out.2]; omega)⟩
        obtain ⟨p, hp, hc, _⟩ := HOK.out.k k x hx
        have hp : ka = some p := hp
        subst hp
        have hc2 : wr.cell? (p.add k) = some (.slice x.1 x.2.2.length x.2.1) := by rw [h2.bel.cell (World.block_lt_of_cell? _ _ hc)]; exact hc
        have hxb := HOK.out.kb x (List.mem_of_getElem? hx)
        have hkx : (kept32 KA)[k]? = some (cut4 x) := by unfold kept32; rw [List.getElem?_map, List.getElem?_take, if_pos (by omega), hx]; rfl
        obtain ⟨xl, hxl⟩ : ∃ xl, xl = x.2.2.length := ⟨_, rfl⟩
        obtain ⟨yl, hyl⟩ : ∃ yl, yl = (cut4 x).2.2.length := ⟨_, rfl⟩
        have hy2 : yl = min 4 xl := by rw [hyl, hxl]; unfold cut4; simp
        have m1 : min (xl : Int) 4 = (yl : Nat) := by omega
        have hx1 : (cut4 x).1 = x.1 := rfl
        have hx2 : (cut4 x).2.1 = x.2.1 := rfl
        have hnew : slv ((kept32 KA).take (k + 1)) = slv ((kept32 KA).take k) ++ [.slice x.1 yl x.2.1] := by
          rw [List.take_add_one, hkx, hyl]
          unfold slv
          rw [List.map_append]; rfl
        rw [← hxl] at hc2 hxb
        obtain ⟨xa, hxa⟩ : ∃ xa, xa = x.1 := ⟨_, rfl⟩
        obtain ⟨xc, hxc⟩ : ∃ xc, xc = x.2.1 := ⟨_, rfl⟩
        rw [← hxa] at hc2 hnew
        rw [← hxc] at hc2 hnew hxb
        have m2 : yl ≤ xc := by omega
        have m3 : yl ≤ xl := by omega
        have h3 := h2.any (.cells #[.slice xa yl xc] 44)
        have hown := h3.row (v := u) (n := k) (T := 44) (List.mem_cons_self ..)
        have H3 := Lib.hid (And.intro h3 hnew)
        have hk32 : k ≤ 32 := by omega
        have hxb1 := hxb.1
        have hxb2 := hxb.2
        clear h2 h3 hc hx hkx hnew hx1 hx2 hxa hxc hxl hyl hy2 hxb
        go_wp2_with (at_builtin; refine wpList_append_own_at _ rfl (.tmp 18) (.tmp 24) 94 rfl 0 44 i0 (.slice none 0 0) 1 24 Try.underlying94 hi0 hz0 hz1 hz2 rfl (by decide) u k (slv ((kept32 KA).take k)) rfl hown ⟨wr.heap.size, 0, none⟩ 1 1 [.slice xa yl xc] rfl rfl ?x1 ?x2 ?x3 ?x4 ?x5 ?_)
        try (case x1 =>
          intro j y hy
          have hb := Blk.new wr #[.slice xa yl xc] 44
          rw [Addr.add_mid, Nat.zero_add, hb.cell]
          simpa using hy)
        try (case x2 => first | rfl | (intro y hy; simp at hy; subst hy; rfl))
        try (case x3 => unfold maxLen; omega)
        try (case x4 => omega)
        try (case x5 => omega)
        intro v' w2 hown2 hgrow hnil hat
        have h4 := H3.out.1.grow hown2 hgrow (hat.imp id (fun e => e.trans (by simp)))
        rw [← H3.out.2] at h4
        have H4 := Lib.hid h4
        clear hown2 hgrow hnil hat hown h4 H3
        go_wp2
        go_roundw
        case measure => simp [intOf]; omega
        case rel => exact ⟨k + 1, v', by omega, by go_num, rfl, H4.out⟩
      · obtain rfl : k = n := by omega
        have dlt : decide ((k : Int) < (k : Int)) = false := decide_eq_false (by omega)
        rw [List.take_of_length_le (by rw [← HN.out.1]; exact Nat.le_refl _)] at h2
        obtain ⟨va, vc, rfl⟩ := Member.own_slice (h2.row (v := u) (n := k) (T := 44) (List.mem_cons_self ..))
        have H2 := Lib.hid ((h2.front 1 rfl).tail)
        clear h2
        go_wp2
        go_ret
        exact ⟨va, vc, rfl, H2.out⟩
end
/-! What the document fixes. -/
theorem wr_0 : wrap64 0 = 0 := by decide +kernel
theorem wr_1 : wrap64 (-1) = -1 := by decide +kernel
theorem wr_2 : wrap64 1 = 1 := by decide +kernel
theorem sect_zero : sect 0 false = z64 := by decide +kernel
theorem cap4 : cap 4 = 4 := by decide
theorem caps2 : caps 2 = 2 := by decide
attribute [local irreducible] z64
/-- The bay behind the first step. -/
def bA (s : ByteArray) : By := ⟨true, 0, 1, [⟨0, 1, 0, 0, Member.blank 4, (Member.blank 4).set 0 s, [(0, s)], false⟩, Mb.fresh 4]⟩
def bB (s : ByteArray) : By := ⟨true, -1, 1, [⟨0, 1, 0, 0, Member.blank 4, (Member.blank 4).set 0 s, [(0, s)], false⟩, Mb.fresh 4]⟩
def bZ : By := ⟨false, -1, 1, [⟨0, 1, 0, 0, Member.blank 4, Member.blank 4, [], false⟩, ⟨0, 0, 0, 0, Member.blank 4, Member.blank 4, [], false⟩]⟩
theorem wk1 (s : ByteArray) (hs : s.size = 64) : ((By.fresh 2 4).cut 1).writeE 0 0 s = 0 ∧ ((By.fresh 2 4).cut 1).write 0 0 s = bA s := by
  have e : (By.fresh 2 4).cut 1 = ⟨true, 1, 0, [Mb.fresh 4, Mb.fresh 4]⟩ := rfl
  rw [e]
  have hp : (Mb.fresh 4).putE 0 s = 0 := by unfold Mb.putE Mb.may; simp [Mb.fresh, blank_length, hs]
  have hq : (Mb.fresh 4).put 0 s = ⟨0, 1, 0, 0, Member.blank 4, (Member.blank 4).set 0 s, [(0, s)], false⟩ := by unfold Mb.put; rw [if_pos hp]; simp [Mb.fresh, wr_2]
  refine ⟨?_, ?_⟩
  · simp [By.writeE, By.thereE, By.stepE, wr_0, By.at, hp]
  · simp [By.write, By.thereE, By.stepE, By.step, wr_0, By.at, By.on, hq, bA, wr_2]
theorem wk2 (s t : ByteArray) : (bA s).writeE 1 0 t = 21 ∧ (bA s).write 1 0 t = bB s := by
  refine ⟨?_, ?_⟩
  · simp [bA, By.writeE, By.thereE, By.stepE, wr_1]
  · simp [bA, bB, By.write, By.thereE, By.stepE, By.step, wr_1]
theorem wk3 (s : ByteArray) : (bB s).out = true ∧ (bB s).crash [] = bZ := by
  refine ⟨by simp [bB, By.out], ?_⟩
  have h1 : lasting [] 0 [(0, s)] (Member.blank 4) = Member.blank 4 := lasting_rest [] _ 0 _ (by simp)
  have hk : kept [] 0 = false := by simp [kept]
  simp [bB, bZ, By.crash, crashes, Mb.crash, h1, Mb.fresh, lasting, hk]
theorem wk4 : bZ.readE 0 0 = 0 ∧ bZ.get 0 0 = z64 ∧ bZ.steps = 1 ∧ bZ.M.length = 2 ∧ bZ.live = [0, 1] := by
  have hm : (bZ.at 0).may 0 = 0 := by simp [bZ, By.at, Mb.may, blank_length]
  refine ⟨?_, ?_, rfl, rfl, ?_⟩
  · unfold By.readE
    rw [if_neg (by simp [bZ, By.thereE]), if_neg (by simp [bZ, By.out])]; exact hm
  · unfold By.get
    rw [if_neg (by simp [bZ, By.thereE, By.out])]
    unfold Mb.get
    have hm2 : (bZ.at (0 : Int).toNat).may 0 = 0 := hm
    rw [if_pos hm2]
    rfl
  · simp [By.live, bZ, By.at, List.range_succ]
set_option maxHeartbeats 8000000 in
set_option maxRecDepth 100000 in
theorem bwakes_calls (w : World) : Calls Try.prog 51 #[] w fun e w' => e = .returned (.bool true) ∧ Below w.heap.size w w' := by
  obtain ⟨A, hA⟩ : ∃ A, A = sect 97 false := ⟨_, rfl⟩
  obtain ⟨B, hB⟩ : ∃ A, A = sect 98 false := ⟨_, rfl⟩
  have sA : A.size = 64 := by rw [hA, sect_size]; rfl
  have HA : Hid (∀ wx, Calls Try.prog 53 #[.int .u8 97, .bool false] wx fun e w' => e = .returned (.string A) ∧ Below wx.heap.size wx w') := Lib.hid (fun wx => hA ▸ bsector_calls 97 false wx)
  have HB : Hid (∀ wx, Calls Try.prog 53 #[.int .u8 98, .bool false] wx fun e w' => e = .returned (.string B) ∧ Below wx.heap.size wx w') := Lib.hid (fun wx => hB ▸ bsector_calls 98 false wx)
  have HZ : Hid (∀ wx, Calls Try.prog 53 #[.int .u8 0, .bool false] wx fun e w' => e = .returned (.string z64) ∧ Below wx.heap.size wx w') := Lib.hid (fun wx => by
    have := bsector_calls 0 false wx
    rw [sect_zero] at this; exact this)
  have HSA := Lib.hid sA
  clear hA hB sA
  go_enter Try.func51, Try.ntmps51
  go_wp2_with fail
  refine (bnew_calls (Sp.start w) 2 4).mono ?_
  rintro e w1 ⟨P, ps, rfl, h1⟩
  rw [cap4, caps2] at h1
  have HC := Lib.hid (cut_calls h1 1)
  clear h1
  go_wp2_with fail
  refine HC.out.mono ?_
  rintro e w2 ⟨rfl, h2⟩
  have H2 := Lib.hid h2
  clear h2 HC
  go_wp2_with fail
  refine (HA.out _).mono ?_
  rintro e w3 ⟨rfl, b3⟩
  have hw := bwrite_calls (H2.out.step b3) (by intro m hm; simp [By.fresh, By.cut] at hm; rw [hm]; simp [Mb.fresh]) 0 0 A
  rw [(wk1 A HSA.out).1, (wk1 A HSA.out).2] at hw
  have HW := Lib.hid hw
  clear hw b3
  go_wp2_with fail
  refine HW.out.mono ?_
  rintro e w4 ⟨rfl, h4⟩
  have H4 := Lib.hid h4
  clear h4 HW H2
  go_wp2_with fail
  refine (HB.out _).mono ?_
  rintro e w5 ⟨rfl, b5⟩
  have hw := bwrite_calls (H4.out.step b5) (by intro m hm; simp [bA] at hm; rcases hm with rfl | rfl <;> simp [Mb.fresh]) 1 0 B
  rw [(wk2 A B).1, (wk2 A B).2] at hw
  have HW := Lib.hid hw
  clear hw b5
  go_wp2_with fail
  refine HW.out.mono ?_
  rintro e w6 ⟨rfl, h6⟩
  have ho := off_calls h6
  rw [(wk3 A).1] at ho
  have HO := Lib.hid ho
  have hps := (bds h6)
  obtain ⟨_, _, hbd⟩ := hps
  have hpl := hbd.len
  have hcr := bcrash_calls h6 (by intro m hm; simp [bB] at hm; rcases hm with rfl | rfl <;> simp [Mb.fresh]) (by rw [hpl]; show 2 ≤ 100000; omega) none 0 [] (by simp) (by intro x hx; simp at hx) (fun L' w' hs i x hx => by simp at hx)
  rw [show kss [] = [] from rfl, (wk3 A).2] at hcr
  have HCR := Lib.hid hcr
  clear h6 ho hcr hbd hpl HW H4
  go_wp2_with fail
  refine HO.out.mono ?_
  rintro e w7 ⟨rfl, rfl⟩
  go_wp2_with fail
  refine HCR.out.mono ?_
  rintro e w8 ⟨rfl, h8⟩
  have hr := bread_calls h8 0 0
  rw [wk4.1, wk4.2.1] at hr
  have HR := Lib.hid hr
  clear h8 hr HO HCR
  go_wp2_with fail
  refine HR.out.mono ?_
  rintro e w9 ⟨rfl, h9⟩
  have H9 := Lib.hid h9
  clear h9 HR
  go_wp2_with fail
  refine (HZ.out _).mono ?_
  rintro e w10 ⟨rfl, b10⟩
  have h10 := H9.out.step b10
  have hst := steps_calls h10
  have hsz := bsize_calls h10
  obtain ⟨_, _, hbd⟩ := bds h10
  have hpl := hbd.len
  rw [wk4.2.2.2.1] at hsz hpl
  rw [wk4.2.2.1] at hst
  have hlv := blive_calls h10 (by omega)
  rw [wk4.2.2.2.2] at hlv
  have HST := Lib.hid hst
  have HSZ := Lib.hid hsz
  have HLV := Lib.hid hlv
  clear h10 hst hsz hlv hbd hpl b10 H9
  go_wp2_with fail
  refine HST.out.mono ?_
  rintro e w11 ⟨rfl, rfl⟩
  go_wp2_with fail
  refine HSZ.out.mono ?_
  rintro e w11 ⟨rfl, rfl⟩
  go_wp2_with fail
  refine HLV.out.mono ?_
  rintro e w12 ⟨v, rfl, h12⟩
  obtain ⟨va, vc, rfl⟩ := Member.own_slice (h12.row (List.mem_cons_self ..))
  have HBEL := Lib.hid h12.bel
  clear h12
  go_wp2
  go_ret
  exact ⟨rfl, HBEL.out⟩
end Go.Proofs.Ytahdhkhgokggbaa.Bay
