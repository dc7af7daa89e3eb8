/- BayCut: with the power failing behind n steps just the first n of any steps are made; behind a crash all are again; walked. -/
import Derived.Test.YtahdhkhgokggbaaBayAct
namespace Go.Proofs.Ytahdhkhgokggbaa.BayCutW
open Go.RowKit Go.Proofs.Ytahdhkhgokggbaa.Mem Go.Proofs.Ytahdhkhgokggbaa.Sep Go.Proofs.Ytahdhkhgokggbaa.Opn Go.Proofs.Ytahdhkhgokggbaa.Member Go.Proofs.Ytahdhkhgokggbaa.Bay
open Go.Proofs.YtahdhkhgokggbaaW.PrintWords hiding bt
set_option linter.unusedVariables false
set_option linter.unusedSimpArgs false

theorem cap8 : cap 8 = 8 := by decide
theorem caps4 : caps 4 = 4 := by decide
/-- Behind k calls, of which 'made' were steps. -/
structure Ct (b : By) (n : Int) (k made : Nat) : Prop where
  bi : Bi b 4 k
  set : b.set = true
  steps : b.steps = made
  le : made ≤ k
  rel : (b.left = max 0 n - made ∧ (made : Int) ≤ max 0 n) ∨ (b.left < 0 ∧ (made : Int) = max 0 n)
  live : ∀ m ∈ b.M, m.dead = false ∧ m.now.length = 8
theorem Ct.out {b : By} {n : Int} {k made : Nat} (h : Ct b n k made) : b.out = decide (n ≤ made) := by
  unfold By.out
  rw [h.set, Bool.true_and, decide_eq_decide]
  rcases h.rel with ⟨a, c⟩ | ⟨a, c⟩ <;> omega
theorem Ct.step {b : By} {n : Int} {k made : Nat} (h : Ct b n k made) (hk : k ≤ 100000) :
    (¬ n ≤ made → b.stepE = 0 ∧ Ct b.step n (k + 1) (made + 1)) ∧ (n ≤ made → b.stepE = 21 ∧ Ct b.step n (k + 1) made) := by
  have hE := stepE_out (h.bi.fit (by omega))
  rw [h.out] at hE
  have hw := wrap_less (h.bi.fit (by omega)).1 h.bi.hi
  have hle := h.le
  refine ⟨fun hn => ?_, fun hn => ?_⟩
  · rw [decide_eq_false hn] at hE
    have hE : b.stepE = 0 := hE
    have hl : 0 < b.left := by rcases h.rel with ⟨a, c⟩ | ⟨a, c⟩ <;> omega
    have hs : b.step = { b with left := b.left - 1, steps := wrap64 (b.steps + 1) } := by
      unfold By.step
      rw [h.set, hw]
      simp only [if_true]
      rw [if_neg (by omega)]
    refine ⟨hE, h.bi.step (by omega), by rw [hs]; exact h.set, ?_, by omega, ?_, by rw [step_M]; exact h.live⟩
    · rw [hs]
      show wrap64 (b.steps + 1) = _
      rw [h.steps]; unfold wrap64; omega
    · rw [hs]
      show (b.left - 1 = _ ∧ _) ∨ _
      rcases h.rel with ⟨a, c⟩ | ⟨a, c⟩
      · left; omega
      · omega
  · rw [decide_eq_true hn] at hE
    have hE : b.stepE = 21 := hE
    have hl : b.left ≤ 0 := by rcases h.rel with ⟨a, c⟩ | ⟨a, c⟩ <;> omega
    have hs : b.step = { b with left := b.left - 1 } := by
      unfold By.step
      rw [h.set, hw]
      simp only [if_true]
      rw [if_pos (by omega)]
    refine ⟨hE, h.bi.step (by omega), by rw [hs]; exact h.set, by rw [hs]; exact h.steps, by omega, ?_, by rw [step_M]; exact h.live⟩
    rw [hs]
    show _ ∨ (b.left - 1 < 0 ∧ _)
    right
    rcases h.rel with ⟨a, c⟩ | ⟨a, c⟩ <;> omega
theorem Ct.on {b : By} {n : Int} {k made : Nat} (h : Ct b n k made) (i : Nat) (m : Mb) (hm : m.q.length ≤ k) (h1 : m.dead = false) (h2 : m.now.length = 8) : Ct (b.on i m) n k made :=
  ⟨h.bi.on i m hm, h.set, h.steps, h.le, h.rel, fun x hx => by
    rcases List.mem_or_eq_of_mem_set hx with e | e
    · exact h.live x e
    · subst e; exact ⟨h1, h2⟩⟩
theorem Ct.there {b : By} {n : Int} {k made : Nat} (h : Ct b n k made) {i : Nat} (hi : i < 4) : b.thereE i = 0 ∧ ∃ m, b.M[i]? = some m ∧ b.at i = m ∧ m.dead = false ∧ m.now.length = 8 ∧ m.q.length ≤ k := by
  have hl : i < b.M.length := by rw [h.bi.len]; exact hi
  refine ⟨by unfold By.thereE; rw [if_pos ⟨by omega, by omega⟩], b.M[i], List.getElem?_eq_getElem hl, at_eq (List.getElem?_eq_getElem hl), ?_⟩
  have hm := List.getElem_mem hl
  exact ⟨(h.live _ hm).1, (h.live _ hm).2, h.bi.few _ hm⟩
theorem Ct.write {b : By} {n : Int} {k made : Nat} (h : Ct b n k made) (hk : k ≤ 100000) {i j : Nat} (hi : i < 4) (hj : j < 8) (s : ByteArray) (hs : s.size = 64) :
    (¬ n ≤ made → b.writeE i j s = 0 ∧ Ct (b.write i j s) n (k + 1) (made + 1)) ∧ (n ≤ made → b.writeE i j s = 21 ∧ Ct (b.write i j s) n (k + 1) made) := by
  obtain ⟨ht, m, hm, hat, hd, hn, hq⟩ := h.there hi
  refine ⟨fun hn1 => ?_, fun hn1 => ?_⟩
  · obtain ⟨hE, hC⟩ := (h.step hk).1 hn1
    have hmy : m.may j = 0 := m.may_live j hd (by omega)
    have hp : m.putE j s = 0 := by unfold Mb.putE; simp [hmy, hs]
    have hW : b.write i j s = b.step.on i (m.put j s) := by
      unfold By.write
      rw [if_neg (by rw [ht]; simp), if_neg (by rw [hE]; simp), Int.toNat_natCast, hat]
    refine ⟨?_, ?_⟩
    · unfold By.writeE
      rw [if_neg (by rw [ht]; simp), if_neg (by rw [hE]; simp), Int.toNat_natCast, hat]; exact hp
    · rw [hW]
      have hput : m.put j s = { m with now := m.now.set j s, q := m.q ++ [(j, s)], w := wrap64 (m.w + 1) } := by unfold Mb.put; rw [if_pos hp, Int.toNat_natCast]
      rw [hput]
      exact hC.on i _ (by simp; omega) hd (by simp [hn])
  · obtain ⟨hE, hC⟩ := (h.step hk).2 hn1
    refine ⟨?_, ?_⟩
    · unfold By.writeE
      rw [if_neg (by rw [ht]; simp), if_pos (by rw [hE]; simp)]
    · have hW : b.write i j s = b.step := by
        unfold By.write
        rw [if_neg (by rw [ht]; simp), if_pos (by rw [hE]; simp)]
      rw [hW]; exact hC
theorem Ct.flush {b : By} {n : Int} {k made : Nat} (h : Ct b n k made) (hk : k ≤ 100000) {i : Nat} (hi : i < 4) :
    (¬ n ≤ made → b.flushE i = 0 ∧ Ct (b.flush i) n (k + 1) (made + 1)) ∧ (n ≤ made → b.flushE i = 21 ∧ Ct (b.flush i) n (k + 1) made) := by
  obtain ⟨ht, m, hm, hat, hd, hn, hq⟩ := h.there hi
  refine ⟨fun hn1 => ?_, fun hn1 => ?_⟩
  · obtain ⟨hE, hC⟩ := (h.step hk).1 hn1
    have hp : m.flushE = 0 := by unfold Mb.flushE; rw [hd]; rfl
    have hW : b.flush i = b.step.on i m.flush := by
      unfold By.flush
      rw [if_neg (by rw [ht]; simp), if_neg (by rw [hE]; simp), Int.toNat_natCast, hat]
    refine ⟨?_, ?_⟩
    · unfold By.flushE
      rw [if_neg (by rw [ht]; simp), if_neg (by rw [hE]; simp), Int.toNat_natCast, hat]; exact hp
    · rw [hW]
      have hput : m.flush = { m with las := m.now, q := [], f := wrap64 (m.f + 1) } := by unfold Mb.flush; rw [hd]; rfl
      rw [hput]
      exact hC.on i _ (by simp) hd (by simp [hn])
  · obtain ⟨hE, hC⟩ := (h.step hk).2 hn1
    refine ⟨?_, ?_⟩
    · unfold By.flushE
      rw [if_neg (by rw [ht]; simp), if_pos (by rw [hE]; simp)]
    · have hW : b.flush i = b.step := by
        unfold By.flush
        rw [if_neg (by rw [ht]; simp), if_pos (by rw [hE]; simp)]
      rw [hW]; exact hC
theorem Ct.read {b : By} {n : Int} {k made : Nat} (h : Ct b n k made) {i : Nat} (hi : i < 4) : b.readE i 0 = if n ≤ made then 21 else 0 := by
  obtain ⟨ht, m, hm, hat, hd, hn, hq⟩ := h.there hi
  have hmy : m.may 0 = 0 := m.may_live 0 hd (by omega)
  unfold By.readE
  rw [if_neg (by rw [ht]; simp), h.out, Int.toNat_natCast, hat, hmy]
  by_cases hn1 : n ≤ made
  · simp [hn1]
  · simp [hn1]
def P (w0 : World) (B : Nat) (ps : List Nat) (n : Int) (k made : Nat) (w : World) : Prop := ∃ b, Sp w0 [bay B ps 8 b] w ∧ Ct b n k made
theorem ct0 (n : Int) (hn : n ≤ 9223372036854775807) : Ct ((By.fresh 4 8).cut n) n 0 0 :=
  ⟨⟨by show -((0 : Nat) : Int) ≤ max 0 n; omega, by show max 0 n ≤ _; omega, (Bi.fresh 4 8).few, rfl⟩, rfl, rfl, by omega, .inl ⟨by show max 0 n = _; omega, by omega⟩, fun m hm => by
    have := List.eq_of_mem_replicate (show m ∈ List.replicate 4 (Mb.fresh 8) from hm)
    rw [this]; simp [Mb.fresh, blank_length]⟩
/-- What is so at the end. -/
theorem Ct.done {b : By} {n : Int} {k made : Nat} (h : Ct b n k made) (hk : k ≤ 100000) :
    (b.crash []).out = false ∧ (b.crash []).flushE 3 = 0 ∧ ((b.crash []).flush 3).steps = made + 1 ∧ ∀ m ∈ (b.crash []).M, m.q.length < 1000000 := by
  have hl : (b.crash []).M.length = 4 := by show (crashes [] b.M).length = 4; unfold crashes; rw [List.length_mapIdx]; exact h.bi.len
  have hs : (b.crash []).stepE = 0 := by unfold By.stepE; rw [if_neg (by simp [By.crash])]
  have ht : (b.crash []).thereE 3 = 0 := by unfold By.thereE; rw [if_pos ⟨by omega, by rw [hl]; omega⟩]
  have hlive : ∀ m ∈ (b.crash []).M, m.dead = false := fun m hm => by
    have hm : m ∈ crashes [] b.M := hm
    unfold crashes at hm
    obtain ⟨i, hi⟩ := List.getElem?_of_mem hm
    rw [List.getElem?_mapIdx] at hi
    cases e : b.M[i]? with
    | none => rw [e] at hi; cases hi
    | some y =>
      rw [e] at hi
      obtain rfl := Option.some.inj hi
      have hy := (h.live y (List.mem_of_getElem? e)).1
      show (y.crash _).dead = false
      unfold Mb.crash
      rw [hy]; rfl
  have h3 : (b.crash []).M[3]? = some ((b.crash []).at 3) := by
    unfold By.at
    rw [List.getD_eq_getElem?_getD, List.getElem?_eq_getElem (by omega)]; rfl
  have hd := hlive _ (List.mem_of_getElem? h3)
  have hb := h.bi.crash []
  refine ⟨by unfold By.out By.crash; rfl, ?_, ?_, fun m hm => by have := hb.few m hm; omega⟩
  · unfold By.flushE
    rw [if_neg (by rw [ht]; simp), if_neg (by rw [hs]; simp)]
    show ((b.crash []).at 3).flushE = 0
    unfold Mb.flushE; rw [hd]; rfl
  · unfold By.flush
    rw [if_neg (by rw [ht]; simp), if_neg (by rw [hs]; simp)]
    show (b.crash []).step.steps = _
    have : (b.crash []).step = { b.crash [] with steps := wrap64 ((b.crash []).steps + 1) } := by unfold By.step; rfl
    rw [this]
    show wrap64 (b.steps + 1) = _
    rw [h.steps]
    have := h.le
    unfold wrap64; omega
theorem mod_nat (x : Int) (N : Nat) (hN : 0 < N) : ∃ i : Nat, i < N ∧ max 0 x % (N : Int) = (i : Nat) := by
  have h1 := Int.emod_nonneg (max 0 x) (show (N : Int) ≠ 0 by omega)
  have h2 := Int.emod_lt_of_pos (max 0 x) (show (0 : Int) < N by omega)
  exact ⟨(max 0 x % (N : Int)).toNat, by omega, by omega⟩
set_option maxHeartbeats 16000000 in
set_option maxRecDepth 100000 in
theorem walk (a0 : Int) (a1 : Option Addr) (len1 cap1 : Nat) (w : World) (f0 : (Lit.int .i64 a0).wf = true) (f1 : Rd w (.slice 6 56 bmSh) [.slice a1 len1 cap1]) :
    Calls Try.prog 11 #[.int .i64 a0, .slice a1 len1 cap1] w fun e w' => e = .returned (.bool true) ∧ Below w.heap.size w w' := by
  obtain ⟨hlc, hcm, hacts⟩ := rd_bacts f1
  have HA := Lib.hid hacts
  have hn := bnew_calls (Sp.start w) 4 8
  rw [cap8, caps4] at hn
  have HN := Lib.hid hn
  simp [Lit.wf, IntKind.min, IntKind.max, IntKind.signed, IntKind.bits] at f0
  have HCT := Lib.hid (ct0 a0 (by omega))
  clear f0 f1 hacts hn
  go_enter Try.func11, Try.ntmps11
  go_wp2_with fail
  refine HN.out.mono ?_
  rintro e w1 ⟨B, ps, rfl, h1⟩
  have HC := Lib.hid (cut_calls h1 a0)
  clear h1 HN
  go_wp2_with fail
  refine HC.out.mono ?_
  rintro e w2 ⟨rfl, h2⟩
  have H2 := Lib.hid h2
  clear h2 HC
  go_wp2_with fail
  refine (bwakes_calls _).mono ?_
  rintro e w4 ⟨rfl, b3⟩
  have HP0 : Hid (P w B ps a0 0 0 w4) := Lib.hid ⟨_, H2.out.step b3, HCT.out⟩
  clear b3 H2 HCT
  go_upto_region 6 with fail
  go_cut [24, 25, 26] (fun s34 s35 s36 wx => ∃ k c' : Nat, k ≤ len1 ∧ k ≤ 80 ∧ s34 = .slice a1 k c' ∧ s35 = .int .i64 k ∧ s36 = .int .i64 0 ∧ w4 = wx)
  case first =>
    have hl : (0 : Int) ≤ (len1 : Int) := by omega
    by_cases hm : len1 ≤ 80
    · have e1 : min (len1 : Int) 80 = len1 := by omega
      go_wp2
      go_meet
      case rel => exact ⟨len1, cap1, by omega, by omega, rfl, rfl, rfl, rfl⟩
    · have e1 : min (len1 : Int) 80 = 80 := by omega
      have e2 : (80 : Nat) ≤ cap1 := by omega
      go_wp2
      go_meet
      case rel => exact ⟨80, cap1, by omega, by omega, rfl, rfl, rfl, rfl⟩
  case rest =>
    obtain ⟨K, c', hm1, hm2, rfl, rfl, rfl, rfl⟩ := hcut
    go_wp2
    go_loopw [6, 26] (fun x6 x wr => ∃ k made : Nat, k ≤ K ∧ made ≤ k ∧ x = .int .i64 k ∧ x6 = .int .i64 made ∧ Hid (P w B ps a0 k made wr)) (fun _ i _ => K - (intOf i).toNat)
    case atStart => exact ⟨0, 0, Nat.zero_le _, Nat.le_refl _, rfl, rfl, HP0⟩
    case round =>
      obtain ⟨k, made, hk, hmk, rfl, rfl, HP⟩ := hrel
      clear HP0
      by_cases hlt : k < K
      · have dlt : decide ((k : Int) < (K : Int)) = true := decide_eq_true (by omega)
        obtain ⟨x, c, rfl, hok, hcell⟩ := HA.out k (by omega)
        obtain ⟨b, h1, hl⟩ := HP.out
        obtain ⟨e0, e1, e2, e3, e4, e5⟩ := bm_cells h1.bel hcell
        obtain ⟨cx, ci, ct, cd, co, ka, kc, KA⟩ := c
        dsimp only at e0 e1 e2 e3 e4 e5
        obtain ⟨KL, hKL⟩ : ∃ KL, KL = KA.length := ⟨_, rfl⟩
        rw [← hKL] at e5
        have h2 := (h1.new #[.int .i64 cx, .int .i64 ci, .int .i64 ct, .int .u8 (cd.toNat : Int), .bool co, .slice ka KL kc] 96).front 1 rfl
        have hb2 := h2.blk (b := wr.heap.size) (C := #[.int .i64 cx, .int .i64 ci, .int .i64 ct, .int .u8 (cd.toNat : Int), .bool co, .slice ka KL kc]) (T := 96) (by simp)
        have H2 := Lib.hid h2
        have HL := Lib.hid (And.intro hl (And.intro hm2 (And.intro hk hmk)))
        obtain ⟨dd, hdd⟩ : ∃ dd, (Go.bits .and .i64 cx 1 == 0) = dd := ⟨_, rfl⟩
        obtain ⟨i, hi4, hie⟩ := mod_nat ci 4 (by omega)
        obtain ⟨j, hj8, hje⟩ := mod_nat ct 8 (by omega)
        obtain ⟨s, hs⟩ : ∃ s, s = sect cd false := ⟨_, rfl⟩
        have HS := Lib.hid (fun wx => hs ▸ bsector_calls cd false wx)
        have HSZ : Hid (s.size = 64) := Lib.hid (by rw [hs, sect_size]; rfl)
        have HIE := Lib.hid hie
        have HJE := Lib.hid hje
        have HDD := Lib.hid hdd
        obtain ⟨ev, hev⟩ : ∃ ev : Int, ev = if a0 ≤ made then 21 else 0 := ⟨_, rfl⟩
        have HEV := Lib.hid hev
        clear hcell hok hl HP h1 hKL hie hje hs hdd hev
        go_upto_region 9 with fail
        generalize hW : wr.alloc (.cells #[.int .i64 cx, .int .i64 ci, .int .i64 ct, .int .u8 (cd.toNat : Int), .bool co, .slice ka KL kc] 96) = W at *
        generalize wr.heap.size = q at *
        clear e0 e1 e2 e3 e4 e5 hW
        have q1 := hb2.cell 1
        go_cut [9] (fun x9 wx => x9 = .int .i64 i ∧ wx = W)
        case first =>
          by_cases ha : 0 ≤ ci
          · have e1 : max 0 ci = ci := by omega
            have e2 : ci % 4 = (i : Nat) := by have := HIE.out; rw [e1] at this; exact this
            have e3 : ci.tmod 4 = (i : Nat) := by rw [Int.tmod_eq_emod_of_nonneg ha]; exact e2
            go_wp2
            go_meet
            all_goals first | exact ⟨rfl, rfl⟩ | (simp; done)
          · have e1 : max 0 ci = 0 := by omega
            have e2 : (i : Int) = 0 := by have := HIE.out; rw [e1] at this; omega
            obtain rfl : i = 0 := by omega
            clear e2
            go_wp2
            go_meet
            all_goals first | exact ⟨rfl, rfl⟩ | (simp; done)
        case rest =>
        obtain ⟨rfl, rfl⟩ := hcut
        clear q1 HIE
        have q0 := hb2.cell 0
        have hdd := HDD.out
        go_upto_if 37 with fail
        go_cut [10] (fun x10 wx => ∃ (b' : By) (made' : Nat), x10 = .int .i64 ev ∧ Hid (made' = if a0 ≤ made then made else made + 1) ∧ Hid (Sp w [bay B ps 8 b', blk q #[.int .i64 cx, .int .i64 ci, .int .i64 ct, .int .u8 (cd.toNat : Int), .bool co, .slice ka KL kc] 96] wx ∧ Ct b' a0 (k + 1) made'))
        case first =>
          clear hdd
          cases dd
          · have hfl := (HL.out.1.flush (by have := HL.out.2.1; omega) hi4)
            have hf := bflush_calls H2.out (i : Nat)
            have hE : b.flushE i = ev := by
              rw [HEV.out]
              by_cases h : a0 ≤ made
              · rw [if_pos h]; exact (hfl.2 h).1
              · rw [if_neg h]; exact (hfl.1 h).1
            have hC : Ct (b.flush i) a0 (k + 1) (if a0 ≤ made then made else made + 1) := by
              by_cases h : a0 ≤ made
              · rw [if_pos h]; exact (hfl.2 h).2
              · rw [if_neg h]; exact (hfl.1 h).2
            rw [hE] at hf
            have HF := Lib.hid hf
            have HCT := Lib.hid hC
            clear hf hE hC hfl h2 hb2 q0
            have hdd := HDD.out
            go_wp2_with fail
            refine HF.out.mono ?_
            rintro e w5 ⟨rfl, h5⟩
            have H5 := Lib.hid h5
            clear h5 HF
            go_wp2
            go_meet
            all_goals exact ⟨_, _, rfl, Lib.hid rfl, Lib.hid ⟨H5.out, HCT.out⟩⟩
          · have hfl := (HL.out.1.write (by have := HL.out.2.1; omega) hi4 hj8 s HSZ.out)
            have hE : b.writeE i j s = ev := by
              rw [HEV.out]
              by_cases h : a0 ≤ made
              · rw [if_pos h]; exact (hfl.2 h).1
              · rw [if_neg h]; exact (hfl.1 h).1
            have hC : Ct (b.write i j s) a0 (k + 1) (if a0 ≤ made then made else made + 1) := by
              by_cases h : a0 ≤ made
              · rw [if_pos h]; exact (hfl.2 h).2
              · rw [if_neg h]; exact (hfl.1 h).2
            have HE := Lib.hid hE
            have HCT := Lib.hid hC
            have HFW := Lib.hid (fun (m : Mb) (hm : m ∈ b.M) => (by have := HL.out.1.bi.few m hm; have := HL.out.2.1; omega : m.q.length < 1000000))
            have h4 := H2.out.drew
            have hb := h4.blk (b := q) (C := #[.int .i64 cx, .int .i64 ci, .int .i64 ct, .int .u8 (cd.toNat : Int), .bool co, .slice ka KL kc]) (T := 96) (by simp)
            clear hE hC hfl h2
            have hdd := HDD.out
            have hj : ct % 8 = (j : Int) ∧ 0 ≤ ct ∨ ct < 0 ∧ j = 0 := by
              by_cases ha : 0 ≤ ct
              · have := HJE.out; rw [show max 0 ct = ct by omega] at this; exact .inl ⟨this, ha⟩
              · have := HJE.out; rw [show max 0 ct = 0 by omega] at this; exact .inr ⟨by omega, by omega⟩
            rcases hj with ⟨hj1, ha⟩ | ⟨ha, rfl⟩
            · have m1 : max 0 ct = ct := by omega
              have m2 : ct.tmod 8 = (j : Nat) := by rw [Int.tmod_eq_emod_of_nonneg ha]; exact hj1
              go_upto_region 12 with fail
              clear hb2 q0 hdd
              go_region_held3 (fun w' => w'.cell? ⟨q, 2, none⟩ = some (.int .i64 ct) ∧ w'.cell? ⟨q, 3, none⟩ = some (.int .u8 (cd.toNat : Int)))
                (first | assumption | exact ⟨Blk.cell hb 2, Blk.cell hb 3⟩)
                (first
                  | (go_at_call 53; refine (HS.out _).mono ?_; rintro e w2 ⟨rfl, b2⟩; have h4 := h4.step b2; have hb := h4.blk (b := q) (C := #[.int .i64 cx, .int .i64 ci, .int .i64 ct, .int .u8 (cd.toNat : Int), .bool co, .slice ka KL kc]) (T := 96) (by simp))
                  | (go_at_call 52; refine (bwrite_calls h4 HFW.out (i : Nat) (j : Nat) s).mono ?_; rintro e w2 ⟨he, h4⟩; rw [HE.out] at he; subst he; have hb := h4.blk (b := q) (C := #[.int .i64 cx, .int .i64 ci, .int .i64 ct, .int .u8 (cd.toNat : Int), .bool co, .slice ka KL kc]) (T := 96) (by simp)))
              all_goals go_wp2
              all_goals go_meet
              all_goals exact ⟨_, _, rfl, Lib.hid rfl, Lib.hid ⟨h4, HCT.out⟩⟩
            · have m1 : max 0 ct = 0 := by omega
              go_upto_region 12 with fail
              clear hb2 q0 hdd
              go_region_held3 (fun w' => w'.cell? ⟨q, 2, none⟩ = some (.int .i64 ct) ∧ w'.cell? ⟨q, 3, none⟩ = some (.int .u8 (cd.toNat : Int)))
                (first | assumption | exact ⟨Blk.cell hb 2, Blk.cell hb 3⟩)
                (first
                  | (go_at_call 53; refine (HS.out _).mono ?_; rintro e w2 ⟨rfl, b2⟩; have h4 := h4.step b2; have hb := h4.blk (b := q) (C := #[.int .i64 cx, .int .i64 ci, .int .i64 ct, .int .u8 (cd.toNat : Int), .bool co, .slice ka KL kc]) (T := 96) (by simp))
                  | (go_at_call 52; refine (bwrite_calls h4 HFW.out (i : Nat) 0 s).mono ?_; rintro e w2 ⟨he, h4⟩; rw [show b.writeE i 0 s = _ from HE.out] at he; subst he; have hb := h4.blk (b := q) (C := #[.int .i64 cx, .int .i64 ci, .int .i64 ct, .int .u8 (cd.toNat : Int), .bool co, .slice ka KL kc]) (T := 96) (by simp)))
              all_goals go_wp2
              all_goals go_meet
              all_goals exact ⟨_, _, rfl, Lib.hid rfl, Lib.hid ⟨h4, HCT.out⟩⟩
        case rest =>
        obtain ⟨b', made', rfl, HMD, HSC⟩ := hcut
        have HR := Lib.hid (bread_calls HSC.out.1 (i : Nat) 0)
        have HRE := Lib.hid (HSC.out.2.read hi4)
        have HOU := Lib.hid HSC.out.2.out
        clear q0 hdd h2 hb2 HDD HJE HS HSZ
        by_cases hout : a0 ≤ made
        · have hmd : made' = made := by have := HMD.out; rw [if_pos hout] at this; exact this
          subst hmd
          have hre : b'.readE i 0 = 21 := by have := HRE.out; rw [if_pos hout] at this; exact this
          have hou : b'.out = true := by have := HOU.out; rw [decide_eq_true hout] at this; exact this
          rw [hre] at HR
          obtain rfl : ev = 21 := by rw [HEV.out, if_pos hout]
          have d1 : decide ((made' : Int) < a0) = false := decide_eq_false (by omega)
          have d2 : decide (a0 ≤ (made' : Int)) = true := decide_eq_true hout
          have HO2 := Lib.hid hou
          clear hre hou HRE HOU HMD hout
          go_wp2_with fail
          refine HR.out.mono ?_
          rintro e w6 ⟨rfl, h6⟩
          have ho := off_calls h6
          rw [HO2.out] at ho
          have HOF := Lib.hid ho
          have HQ : Hid (P w B ps a0 (k + 1) made' w6) := Lib.hid ⟨b', (h6.front 1 rfl).tail, HSC.out.2⟩
          clear ho h6 HR
          go_wp2_with fail
          refine HOF.out.mono ?_
          rintro e w' ⟨rfl, rfl⟩
          go_wp2
          go_roundw
          case measure => simp [intOf]; omega
          case rel => exact ⟨k + 1, made', by omega, by omega, by go_num, rfl, HQ⟩
        · have hmd : made' = made + 1 := by have := HMD.out; rw [if_neg hout] at this; exact this
          subst hmd
          obtain rfl : ev = 0 := by rw [HEV.out, if_neg hout]
          have d1 : decide ((made : Int) < a0) = true := decide_eq_true (by omega)
          by_cases hout2 : a0 ≤ ((made + 1 : Nat) : Int)
          · have hre : b'.readE i 0 = 21 := by have := HRE.out; rw [if_pos hout2] at this; exact this
            have hou : b'.out = true := by have := HOU.out; rw [decide_eq_true hout2] at this; exact this
            rw [hre] at HR
            have d2 : decide (a0 ≤ (made : Int) + 1) = true := decide_eq_true (by omega)
            have HO2 := Lib.hid hou
            clear hre hou HRE HOU HMD hout hout2
            go_wp2_with fail
            refine HR.out.mono ?_
            rintro e w6 ⟨rfl, h6⟩
            have ho := off_calls h6
            rw [HO2.out] at ho
            have HOF := Lib.hid ho
            have HQ : Hid (P w B ps a0 (k + 1) (made + 1) w6) := Lib.hid ⟨b', (h6.front 1 rfl).tail, HSC.out.2⟩
            clear ho h6 HR
            go_wp2_with fail
            refine HOF.out.mono ?_
            rintro e w' ⟨rfl, rfl⟩
            go_wp2
            go_roundw
            case measure => simp [intOf]; omega
            case rel => exact ⟨k + 1, made + 1, by omega, by omega, by go_num, by go_num, HQ⟩
          · have hre : b'.readE i 0 = 0 := by have := HRE.out; rw [if_neg hout2] at this; exact this
            have hou : b'.out = false := by have := HOU.out; rw [decide_eq_false hout2] at this; exact this
            rw [hre] at HR
            have d2 : decide (a0 ≤ (made : Int) + 1) = false := decide_eq_false (by omega)
            have HO2 := Lib.hid hou
            clear hre hou HRE HOU HMD hout hout2
            go_wp2_with fail
            refine HR.out.mono ?_
            rintro e w6 ⟨rfl, h6⟩
            have ho := off_calls h6
            rw [HO2.out] at ho
            have HOF := Lib.hid ho
            have HQ : Hid (P w B ps a0 (k + 1) (made + 1) w6) := Lib.hid ⟨b', (h6.front 1 rfl).tail, HSC.out.2⟩
            clear ho h6 HR
            go_wp2_with fail
            refine HOF.out.mono ?_
            rintro e w' ⟨rfl, rfl⟩
            go_wp2
            go_roundw
            case measure => simp [intOf]; omega
            case rel => exact ⟨k + 1, made + 1, by omega, by omega, by go_num, by go_num, HQ⟩
      · obtain rfl : k = K := by omega
        have dlt : decide ((k : Int) < (k : Int)) = false := decide_eq_false (by omega)
        obtain ⟨b, h1, hl⟩ := HP.out
        obtain ⟨_, _, hbd⟩ := bds h1
        have hst := steps_calls h1
        rw [hl.steps] at hst
        have HST := Lib.hid hst
        have hpl := hbd.len.trans hl.bi.len
        have HCR := Lib.hid (bcrash_calls h1 (fun m hm => by have := hl.bi.few m hm; omega) (by omega) none 0 [] (by simp) (by intro x hx; simp at hx) (fun L' w' hs i x hx => by simp at hx))
        have HD := Lib.hid (hl.done (by omega))
        clear h1 hl hst hbd hpl HA HP
        go_wp2_with fail
        refine HST.out.mono ?_
        rintro e w' ⟨rfl, rfl⟩
        go_wp2_with fail
        refine HCR.out.mono ?_
        rintro e w5 ⟨rfl, h5⟩
        have h5 : Sp w [bay B ps 8 (b.crash [])] w5 := h5
        have ho := off_calls h5
        rw [HD.out.1] at ho
        have HOF := Lib.hid ho
        have hf := bflush_calls h5 3
        rw [HD.out.2.1] at hf
        have HF := Lib.hid hf
        clear ho hf h5 HCR HST
        go_wp2_with fail
        refine HOF.out.mono ?_
        rintro e w' ⟨rfl, rfl⟩
        go_wp2_with fail
        refine HF.out.mono ?_
        rintro e w6 ⟨rfl, h6⟩
        have hst := steps_calls h6
        rw [HD.out.2.2.1] at hst
        have HST := Lib.hid hst
        have HB := Lib.hid h6.bel
        clear hst h6 HF HOF
        go_wp2_with fail
        refine HST.out.mono ?_
        rintro e w' ⟨rfl, rfl⟩
        go_wp2
        go_ret
        exact ⟨rfl, HB.out⟩
end Go.Proofs.Ytahdhkhgokggbaa.BayCutW
