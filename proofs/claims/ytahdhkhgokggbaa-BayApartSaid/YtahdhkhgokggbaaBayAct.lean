/- One call of a bay and of the document's; are both the same? Walked. -/
import Derived.Test.YtahdhkhgokggbaaBayLaw
namespace Go.Proofs.Ytahdhkhgokggbaa.Bay
open Go.RowKit Go.Proofs.Ytahdhkhgokggbaa.Mem Go.Proofs.Ytahdhkhgokggbaa.Opn Go.Proofs.Ytahdhkhgokggbaa.Sep Go.Proofs.Ytahdhkhgokggbaa.Member
open Go.Proofs.YtahdhkhgokggbaaW.PrintWords hiding bt
set_option linter.unusedVariables false
set_option linter.unusedSimpArgs false

/-- What is so of a bay of N members behind k calls. -/
structure Bi (b : By) (N k : Nat) : Prop where
  lo : -(k : Int) ≤ b.left
  hi : b.left ≤ 9223372036854775807
  few : ∀ m ∈ b.M, m.q.length ≤ k
  len : b.M.length = N
theorem Bi.fit {b : By} {N k : Nat} (h : Bi b N k) (hk : k ≤ 1000000) : b.fit := ⟨by have := h.lo; omega, h.hi⟩
theorem Bi.more {b : By} {N k : Nat} (h : Bi b N k) : Bi b N (k + 1) := ⟨by have := h.lo; omega, h.hi, fun m hm => Nat.le_succ_of_le (h.few m hm), h.len⟩
theorem Bi.fresh (N n : Nat) : Bi (By.fresh N n) N 0 := ⟨by simp [By.fresh], by simp [By.fresh], fun m hm => by have := List.eq_of_mem_replicate hm; rw [this]; simp [Mb.fresh], by simp [By.fresh]⟩
theorem step_left {b : By} {N k : Nat} (h : Bi b N k) (hk : k ≤ 1000000) : -(k + 1 : Int) ≤ b.step.left ∧ b.step.left ≤ 9223372036854775807 := by
  have hw := wrap_less (h.fit hk).1 h.hi
  unfold By.step
  have := h.lo
  have := h.hi
  cases b.set
  · simp; omega
  · simp only [if_true]
    rw [hw]
    split <;> simp <;> omega
theorem Bi.step {b : By} {N k : Nat} (h : Bi b N k) (hk : k ≤ 1000000) : Bi b.step N (k + 1) :=
  ⟨by have := (step_left h hk).1; push_cast; omega, (step_left h hk).2, fun m hm => Nat.le_succ_of_le (h.few m (by rw [step_M] at hm; exact hm)), by rw [step_M]; exact h.len⟩
theorem Bi.on {b : By} {N k : Nat} (h : Bi b N k) (i : Nat) (m : Mb) (hm : m.q.length ≤ k) : Bi (b.on i m) N k :=
  ⟨h.lo, h.hi, fun x hx => by
    rcases List.mem_or_eq_of_mem_set hx with e | e
    · exact h.few x e
    · subst e; exact hm, by rw [By.on_length]; exact h.len⟩
theorem at_few {b : By} {N k : Nat} (h : Bi b N k) (i : Nat) : (b.at i).q.length ≤ k := by
  unfold By.at
  rw [List.getD_eq_getElem?_getD]
  cases e : b.M[i]? with
  | none => simp [Mb.fresh]
  | some m => exact h.few m (List.mem_of_getElem? e)
theorem Bi.write {b : By} {N k : Nat} (h : Bi b N k) (hk : k ≤ 1000000) (i j : Int) (s : ByteArray) : Bi (b.write i j s) N (k + 1) := by
  unfold By.write
  split
  · exact h.more
  · split
    · exact h.step hk
    · refine (h.step hk).on _ _ ?_
      unfold Mb.put
      have := at_few h i.toNat
      split
      · simp; omega
      · omega
theorem Bi.flush {b : By} {N k : Nat} (h : Bi b N k) (hk : k ≤ 1000000) (i : Int) : Bi (b.flush i) N (k + 1) := by
  unfold By.flush
  split
  · exact h.more
  · split
    · exact h.step hk
    · refine (h.step hk).on _ _ ?_
      unfold Mb.flush
      have := at_few h i.toNat
      split
      · omega
      · simp
theorem Bi.cut {b : By} {N k : Nat} (h : Bi b N k) (x : Int) (hx : x ≤ 9223372036854775807) : Bi (b.cut x) N (k + 1) :=
  ⟨by show -((k + 1 : Nat) : Int) ≤ max 0 x; omega, by show max 0 x ≤ _; omega, fun m hm => Nat.le_succ_of_le (h.few m hm), h.len⟩
theorem crash_few (m : Mb) (K : List Nat) : (m.crash K).q.length ≤ m.q.length := by unfold Mb.crash; split <;> simp
theorem Bi.crash {b : By} {N k : Nat} (h : Bi b N k) (KS : List (List Nat)) : Bi (b.crash KS) N (k + 1) :=
  ⟨by show -((k + 1 : Nat) : Int) ≤ b.left; have := h.lo; omega, h.hi, fun m hm => by
    have hm : m ∈ crashes KS b.M := hm
    unfold crashes at hm
    obtain ⟨i, hi⟩ := List.getElem?_of_mem hm
    rw [List.getElem?_mapIdx] at hi
    cases e : b.M[i]? with
    | none => rw [e] at hi; cases hi
    | some y =>
      rw [e] at hi
      obtain rfl := Option.some.inj hi
      have := h.few y (List.mem_of_getElem? e)
      have := crash_few y (KS.getD i [])
      show (y.crash (KS.getD i [])).q.length ≤ k + 1
      omega, by show (crashes KS b.M).length = N; unfold crashes; rw [List.length_mapIdx]; exact h.len⟩
section
variable {w0 w : World} {P R n N : Nat} {ps rs : List Nat} {b : By} {L : List Asn}
set_option maxHeartbeats 8000000 in
set_option maxRecDepth 100000 in
theorem bsame_calls (h : Sp w0 (bay P ps n b :: rbay R rs n b :: L) w) (hN : b.M.length = N) (hk : N ≤ 100000) :
    Calls Try.prog 63 #[.pointer (some ⟨P, 0, none⟩), .pointer (some ⟨R, 0, none⟩)] w fun e w' => e = .returned (.bool true) ∧ Sp w0 (bay P ps n b :: rbay R rs n b :: L) w' := by
  obtain ⟨_, _, hbd⟩ := bds h
  have HL := Lib.hid (blive_calls h (by rw [hbd.len, hN]; exact hk))
  have HN := Lib.hid hN
  clear h hN hbd
  go_enter Try.func63, Try.ntmps63
  go_wp2_with fail
  refine HL.out.mono ?_
  rintro e w1 ⟨v1, rfl, h1⟩
  obtain ⟨a1, c1, rfl⟩ := Member.own_slice (h1.row (List.mem_cons_self ..))
  obtain ⟨_, _, hbd⟩ := rbds (h1.front 2 rfl)
  have HL2 := Lib.hid (rblive_calls (h1.front 2 rfl) (by rw [hbd.len, HN.out]; exact hk))
  clear h1 hbd HL
  go_wp2_with fail
  refine HL2.out.mono ?_
  rintro e w2 ⟨v2, rfl, h2⟩
  obtain ⟨a2, c2, rfl⟩ := Member.own_slice (h2.row (List.mem_cons_self ..))
  have h3 := h2.front 3 rfl
  have h3 : Sp w0 (bay P ps n b :: row 3 1 (.slice a2 b.live.length c2) b.live.length (nats b.live) :: rbay R rs n b :: row 3 1 (.slice a1 b.live.length c1) b.live.length (nats b.live) :: L) w2 := h3
  obtain ⟨K, hK⟩ : ∃ K, K = b.live.length := ⟨_, rfl⟩
  have hKN : K ≤ N := by rw [hK, ← HN.out]; exact liveTo_le b _
  have hcell : ∀ wx, Sp w0 (bay P ps n b :: row 3 1 (.slice a2 b.live.length c2) b.live.length (nats b.live) :: rbay R rs n b :: row 3 1 (.slice a1 b.live.length c1) b.live.length (nats b.live) :: L) wx → ∀ k, k < b.live.length → ∃ (i g1 g2 : Nat), a1 = some ⟨g1, 0, none⟩ ∧ a2 = some ⟨g2, 0, none⟩ ∧ wx.cell? ⟨g1, k, none⟩ = some (.int .i64 (i : Nat)) ∧ wx.cell? ⟨g2, k, none⟩ = some (.int .i64 (i : Nat)) := fun wx hx k hk => by
    obtain ⟨i, hi⟩ : ∃ i, b.live[k]? = some i := ⟨_, List.getElem?_eq_getElem hk⟩
    obtain ⟨g2, r1, r2⟩ := row_cell (hx.row (v := .slice a2 b.live.length c2) (T := 3) (size := 1) (n := b.live.length) (xs := nats b.live) (List.mem_cons_of_mem _ (List.mem_cons_self ..))) (nats_at hi)
    obtain ⟨g1, r3, r4⟩ := row_cell (hx.row (v := .slice a1 b.live.length c1) (T := 3) (size := 1) (n := b.live.length) (xs := nats b.live) (List.mem_cons_of_mem _ (List.mem_cons_of_mem _ (List.mem_cons_of_mem _ (List.mem_cons_self ..))))) (nats_at hi)
    exact ⟨i, g1, g2, r3, r1, r4, r2⟩
  rw [← hK] at h3 hcell ⊢
  have HCELL := Lib.hid hcell
  clear h2 hK HL2 hcell
  obtain ⟨ra, rc, hrd⟩ := rbds (h3.front 2 rfl)
  have hs0 := hrd.c0
  have hs1 := hrd.c1
  have hs2 := hrd.c2
  rw [hrd.len, HN.out] at hs0
  have hro : (b.rest == 0) = b.out := by
    rw [Bool.eq_iff_iff, beq_iff_eq, rest_zero]
  have h4 := h3.drew
  have HST := Lib.hid (steps_calls h4)
  have HOF := Lib.hid (off_calls h4)
  have hsz := bsize_calls h4
  rw [HN.out] at hsz
  have HSZ := Lib.hid hsz
  have H3 := Lib.hid h4
  have e0 : w2.drew.cell? ⟨R, 0, none⟩ = some (.slice ra N rc) := hs0
  have e1 : w2.drew.cell? ⟨R, 1, none⟩ = some (.int .i64 b.steps) := hs1
  have e2 : w2.drew.cell? ⟨R, 2, none⟩ = some (.int .i64 b.rest) := hs2
  obtain ⟨st, hst⟩ : ∃ x, x = b.steps := ⟨_, rfl⟩
  obtain ⟨o, ho⟩ : ∃ x, x = b.out := ⟨_, rfl⟩
  obtain ⟨r, hr⟩ : ∃ x, x = b.rest := ⟨_, rfl⟩
  rw [← hst] at HST e1
  rw [← ho] at HOF hro
  rw [← hr] at e2 hro
  clear h3 h4 hrd hs0 hs1 hs2 hsz hst ho hr
  go_upto_region 2 with fail
  go_cut [45] (fun s45 wx => s45 = .bool false ∧ wx = w2.drew)
  case first =>
    go_region_held3 (fun w' => w'.cell? ⟨R, 0, none⟩ = some (.slice ra N rc) ∧ w'.cell? ⟨R, 1, none⟩ = some (.int .i64 st) ∧ w'.cell? ⟨R, 2, none⟩ = some (.int .i64 r))
      (first | assumption | exact ⟨e0, e1, e2⟩)
      (first
        | (go_at_call 57; refine HST.out.mono ?_; rintro e w' ⟨rfl, rfl⟩)
        | (go_at_call 56; refine HOF.out.mono ?_; rintro e w' ⟨rfl, rfl⟩)
        | (go_at_call 59; refine HSZ.out.mono ?_; rintro e w' ⟨rfl, rfl⟩))
    all_goals go_wp2
    all_goals go_meet
    all_goals exact ⟨by cases o <;> rfl, rfl⟩
  case rest =>
    obtain ⟨rfl, rfl⟩ := hcut
    clear e0 e1 e2 hro HST HOF HSZ
    go_wp2
    go_loopw [48] (fun x48 wr => ∃ k : Nat, k ≤ K ∧ x48 = .int .i64 k ∧ Hid (Sp w0 (bay P ps n b :: row 3 1 (.slice a2 K c2) K (nats b.live) :: rbay R rs n b :: row 3 1 (.slice a1 K c1) K (nats b.live) :: L) wr)) (fun i _ => K - (intOf i).toNat)
    case atStart => exact ⟨0, Nat.zero_le _, rfl, H3⟩
    case round =>
      clear H3
      obtain ⟨k, hk2, rfl, H6⟩ := hrel
      by_cases hlt : k < K
      · have dlt : decide ((k : Int) < (K : Int)) = true := decide_eq_true (by omega)
        have i1 : (k : Int) < (K : Int) := by omega
        obtain ⟨i, g1, g2, rfl, rfl, p1, p2⟩ := HCELL.out wr H6.out k hlt
        have H7 := Lib.hid H6.out.drew
        clear H6
        go_wp2
        go_region
        all_goals go_wp2
        all_goals go_roundw
        case measure => simp [intOf]; omega
        case rel => exact ⟨k + 1, by omega, by go_num, H7⟩
      · obtain rfl : k = K := by omega
        have dlt : decide ((k : Int) < (k : Int)) = false := decide_eq_false (by omega)
        have h7 := (H6.out.front 3 rfl).tail
        have h8 := (h7.front 1 rfl).tail
        have H8 := Lib.hid h8
        clear h7 h8 H6
        go_wp2
        go_ret
        exact ⟨rfl, H8.out⟩
/-- What is so behind an act. -/
def Bacted (w0 : World) (P R n N k : Nat) (ps rs : List Nat) (L : List Asn) (w' : World) : Prop := ∃ b', Sp w0 (bay P ps n b' :: rbay R rs n b' :: L) w' ∧ Bi b' N (k + 1)
theorem bstart (h : Sp w0 (bay P ps n b :: rbay R rs n b :: L) w) (C : Array Value) (T : TypeId) : Sp w0 (bay P ps n b :: rbay R rs n b :: blk w.heap.size C T :: L) (w.alloc (.cells C T)) := by
  have h1 := (h.new C T).front 1 rfl
  exact h1.front 2 rfl |>.front 1 rfl
theorem bstop {q : Nat} {C : Array Value} {T : TypeId} {b1 b2 : By} (h : Sp w0 (bay P ps n b1 :: rbay R rs n b2 :: blk q C T :: L) w) : Sp w0 (bay P ps n b1 :: rbay R rs n b2 :: L) w := (h.front 2 rfl).tail
set_option maxHeartbeats 16000000 in
set_option maxRecDepth 100000 in
theorem bact_read (h : Sp w0 (bay P ps n b :: rbay R rs n b :: L) w) (k : Nat) (hi : Bi b N k) (hk1 : k < 999999) (hN1 : N ≤ 32) (c : Bm) (hok : c.ok w0) (hk : Go.bits .and .i64 c.x 7 = 2) :
    Calls Try.prog 64 #[.pointer (some ⟨P, 0, none⟩), .pointer (some ⟨R, 0, none⟩), .agg (bC c)] w fun e w' => e = .returned (.bool true) ∧ Bacted w0 P R n N k ps rs L w' := by
  have h1 := bstart h (bC c) 96
  have HI := Lib.hid (And.intro hi (And.intro (hi.fit (by omega)) (fun m hm => Nat.lt_of_le_of_lt (hi.few m hm) (by omega : k < 1000000))))
  have HOK := Lib.hid hok
  have HR := Lib.hid (bread_calls h1 c.i c.t)
  obtain ⟨cx, ci, ct, cd, co, ka, kc, KA⟩ := c
  unfold bC at h1 HR ⊢
  dsimp only at h1 HR hk ⊢
  obtain ⟨kl, hkl⟩ : ∃ kl, kl = KA.length := ⟨_, rfl⟩
  rw [← hkl] at h1 HR ⊢
  have HKL := Lib.hid hkl
  generalize hqq : w.heap.size = q at h1 HR 
  have HQQ := Lib.hid hqq
  have H1 := Lib.hid h1
  obtain ⟨kk, hkk⟩ : ∃ kk, kk = Go.bits .and .i64 cx 7 := ⟨_, rfl⟩
  rw [← hkk] at hk
  have HKK := Lib.hid hkk.symm
  clear hkk h hqq h1 hok hi hkl
  subst hk
  have hmod := HKK.out
  go_enter Try.func64, Try.ntmps64
  go_wp2_with fail
  have hqq := HQQ.out
  rw [hqq]
  refine HR.out.mono ?_
  rintro e w2 ⟨rfl, h2⟩
  have hbq := h2.blk (b := q) (C := #[.int .i64 cx, .int .i64 ci, .int .i64 ct, .int .u8 (cd.toNat : Int), .bool co, .slice ka kl kc]) (T := 96) (by simp)
  have c1 := hbq.cell 1
  have c2 := hbq.cell 2
  have HRR := Lib.hid (rbread_calls (h2.front 1 rfl) HI.out.2.2 ci ct)
  clear h2 hmod hqq hbq
  go_wp2_with fail
  refine HRR.out.mono ?_
  rintro e w3 ⟨rfl, h3⟩
  have h4 := h3.front 1 rfl
  have h4 : Sp w0 (bay P ps n (b) :: rbay R rs n (b) :: blk q #[.int .i64 cx, .int .i64 ci, .int .i64 ct, .int .u8 (cd.toNat : Int), .bool co, .slice ka kl kc] 96 :: L) _ := h4
  have H4 := Lib.hid (bstop h4)
  clear h3 h4
  go_wp2
  go_ret
  exact ⟨rfl, _, H4.out, HI.out.1.more⟩
set_option maxHeartbeats 16000000 in
set_option maxRecDepth 100000 in
theorem bact_cut (h : Sp w0 (bay P ps n b :: rbay R rs n b :: L) w) (k : Nat) (hi : Bi b N k) (hk1 : k < 999999) (hN1 : N ≤ 32) (c : Bm) (hok : c.ok w0) (hk : Go.bits .and .i64 c.x 7 = 4) :
    Calls Try.prog 64 #[.pointer (some ⟨P, 0, none⟩), .pointer (some ⟨R, 0, none⟩), .agg (bC c)] w fun e w' => e = .returned (.bool true) ∧ Bacted w0 P R n N k ps rs L w' := by
  have h1 := bstart h (bC c) 96
  have HI := Lib.hid (And.intro hi (And.intro (hi.fit (by omega)) (fun m hm => Nat.lt_of_le_of_lt (hi.few m hm) (by omega : k < 1000000))))
  have HOK := Lib.hid hok
  have HR := Lib.hid (cut_calls h1 c.t)
  obtain ⟨cx, ci, ct, cd, co, ka, kc, KA⟩ := c
  unfold bC at h1 HR ⊢
  dsimp only at h1 HR hk ⊢
  obtain ⟨kl, hkl⟩ : ∃ kl, kl = KA.length := ⟨_, rfl⟩
  rw [← hkl] at h1 HR ⊢
  have HKL := Lib.hid hkl
  generalize hqq : w.heap.size = q at h1 HR 
  have HQQ := Lib.hid hqq
  have H1 := Lib.hid h1
  obtain ⟨kk, hkk⟩ : ∃ kk, kk = Go.bits .and .i64 cx 7 := ⟨_, rfl⟩
  rw [← hkk] at hk
  have HKK := Lib.hid hkk.symm
  clear hkk h hqq h1 hok hi hkl
  subst hk
  have hmod := HKK.out
  go_enter Try.func64, Try.ntmps64
  go_wp2_with fail
  have hqq := HQQ.out
  rw [hqq]
  refine HR.out.mono ?_
  rintro e w2 ⟨rfl, h2⟩
  have hbq := h2.blk (b := q) (C := #[.int .i64 cx, .int .i64 ci, .int .i64 ct, .int .u8 (cd.toNat : Int), .bool co, .slice ka kl kc]) (T := 96) (by simp)
  have c2 := hbq.cell 2
  have HRR := Lib.hid (rbcut_calls (h2.front 1 rfl) ct)
  clear h2 hmod hqq hbq
  go_wp2_with fail
  refine HRR.out.mono ?_
  rintro e w3 ⟨rfl, h3⟩
  have h4 := h3.front 1 rfl
  have h4 : Sp w0 (bay P ps n (b.cut ct) :: rbay R rs n (b.cut ct) :: blk q #[.int .i64 cx, .int .i64 ci, .int .i64 ct, .int .u8 (cd.toNat : Int), .bool co, .slice ka kl kc] 96 :: L) _ := h4
  have H4 := Lib.hid (bstop h4)
  have HT := Lib.hid (HI.out.1.cut ct (by have := HOK.out.t; simp [Lit.wf, IntKind.min, IntKind.max, IntKind.signed, IntKind.bits] at this; omega))
  clear h3 h4
  go_wp2
  go_ret
  exact ⟨rfl, _, H4.out, HT.out⟩
set_option maxHeartbeats 16000000 in
set_option maxRecDepth 100000 in
theorem bact_crash (h : Sp w0 (bay P ps n b :: rbay R rs n b :: L) w) (k : Nat) (hi : Bi b N k) (hk1 : k < 999999) (hN1 : N ≤ 32) (c : Bm) (hok : c.ok w0) (hk : Go.bits .and .i64 c.x 7 = 5) :
    Calls Try.prog 64 #[.pointer (some ⟨P, 0, none⟩), .pointer (some ⟨R, 0, none⟩), .agg (bC c)] w fun e w' => e = .returned (.bool true) ∧ Bacted w0 P R n N k ps rs L w' := by
  have h1 := bstart h (bC c) 96
  have HI := Lib.hid (And.intro hi (And.intro (hi.fit (by omega)) (fun m hm => Nat.lt_of_le_of_lt (hi.few m hm) (by omega : k < 1000000))))
  have HOK := Lib.hid hok
  have HR := Lib.hid (lists_calls h1 c hok)
  obtain ⟨cx, ci, ct, cd, co, ka, kc, KA⟩ := c
  unfold bC at h1 HR ⊢
  dsimp only at h1 HR hk ⊢
  obtain ⟨kl, hkl⟩ : ∃ kl, kl = KA.length := ⟨_, rfl⟩
  rw [← hkl] at h1 HR ⊢
  have HKL := Lib.hid hkl
  generalize hqq : w.heap.size = q at h1 HR 
  have HQQ := Lib.hid hqq
  have H1 := Lib.hid h1
  obtain ⟨kk, hkk⟩ : ∃ kk, kk = Go.bits .and .i64 cx 7 := ⟨_, rfl⟩
  rw [← hkk] at hk
  have HKK := Lib.hid hkk.symm
  clear hkk h hqq h1 hok hi hkl
  subst hk
  have hmod := HKK.out
  go_enter Try.func64, Try.ntmps64
  go_wp2_with fail
  have hqq := HQQ.out
  rw [hqq]
  refine HR.out.mono ?_
  rintro e w2 ⟨a1, c1, rfl, h2⟩
  have h2 := h2.front 1 rfl
  have h2 : Sp w0 (bay P ps n b :: row 44 1 (.slice a1 (kept32 KA).length c1) (kept32 KA).length (slv (kept32 KA)) :: rbay R rs n b :: blk q #[.int .i64 cx, .int .i64 ci, .int .i64 ct, .int .u8 (cd.toNat : Int), .bool co, .slice ka kl kc] 96 :: L) w2 := h2
  obtain ⟨_, _, hbd⟩ := bds h2
  have hcr := bcrash_calls h2 (fun m hm => Nat.le_of_lt (HI.out.2.2 m hm)) (by rw [hbd.len, HI.out.1.len]; omega) a1 c1 (kept32 KA) (by have := kept_len KA; omega) (kept_small KA) (fun M w' hs => kept_wss HOK.out.k hs.bel (hs.row (List.mem_append_right _ (List.mem_cons_self ..))))
  obtain ⟨KS, hKS⟩ : ∃ KS, KS = kss (kept32 KA) := ⟨_, rfl⟩
  rw [← hKS] at hcr
  have HKS := Lib.hid hKS
  obtain ⟨n4, hn4⟩ : ∃ n4, n4 = (kept32 KA).length := ⟨_, rfl⟩
  rw [← hn4] at hcr ⊢
  have HN4 := Lib.hid hn4
  have HCR := Lib.hid hcr
  clear h2 hcr hbd hKS hn4 hmod hqq HR H1
  go_wp2_with fail
  refine HCR.out.mono ?_
  rintro e w3 ⟨rfl, h3⟩
  have hbq := h3.blk (b := q) (C := #[.int .i64 cx, .int .i64 ci, .int .i64 ct, .int .u8 (cd.toNat : Int), .bool co, .slice ka kl kc]) (T := 96) (by simp)
  have q0 := hbq.cell 0
  have q1 := hbq.cell 1
  have q2 := hbq.cell 2
  have q3 := hbq.cell 3
  have q4 := hbq.cell 4
  have q5 := hbq.cell 5
  have hl2 := lists_calls h3 _ HOK.out
  unfold bC at hl2
  dsimp only at hl2
  rw [← HKL.out, ← HN4.out] at hl2
  have HL2 := Lib.hid hl2
  clear h3 hl2 hbq HCR
  go_wp2_with fail
  refine HL2.out.mono ?_
  rintro e w4 ⟨a2, c2, rfl, h4⟩
  have h4 := h4.front 3 rfl
  have h4 : Sp w0 (rbay R rs n b :: row 44 1 (.slice a2 n4 c2) n4 (slv (kept32 KA)) :: bay P ps n (b.crash KS) :: row 44 1 (.slice a1 n4 c1) n4 (slv (kept32 KA)) :: blk q #[.int .i64 cx, .int .i64 ci, .int .i64 ct, .int .u8 (cd.toNat : Int), .bool co, .slice ka kl kc] 96 :: L) w4 := by rw [HN4.out]; rw [HN4.out] at h4; exact h4
  obtain ⟨_, _, hbd⟩ := rbds h4
  have hcr := rbcrash_calls h4 (fun m hm => Nat.le_of_lt (HI.out.2.2 m hm)) (by rw [hbd.len, HI.out.1.len]; omega) a2 c2 (kept32 KA) (by have := kept_len KA; omega) (kept_small KA) (fun M w' hs => kept_wss HOK.out.k hs.bel (hs.row (List.mem_append_right _ (List.mem_cons_self ..))))
  rw [← HKS.out, ← HN4.out] at hcr
  have HCR := Lib.hid hcr
  clear h4 hcr hbd q0 q1 q2 q3 q4 q5 HL2
  go_wp2_with fail
  refine HCR.out.mono ?_
  rintro e w5 ⟨rfl, h5⟩
  have h6 := (h5.front 1 rfl).tail
  have h6 := (h6.front 2 rfl).tail
  have h6 := h6.front 1 rfl
  have h4 : Sp w0 (bay P ps n (b.crash KS) :: rbay R rs n (b.crash KS) :: blk q #[.int .i64 cx, .int .i64 ci, .int .i64 ct, .int .u8 (cd.toNat : Int), .bool co, .slice ka kl kc] 96 :: L) _ := h6
  have H4 := Lib.hid (bstop h4)
  clear h4 h5 h6 HCR
  go_wp2
  go_ret
  exact ⟨rfl, _, H4.out, HI.out.1.crash KS⟩
set_option maxHeartbeats 16000000 in
set_option maxRecDepth 100000 in
theorem bact_flush (h : Sp w0 (bay P ps n b :: rbay R rs n b :: L) w) (k : Nat) (hi : Bi b N k) (hk1 : k < 999999) (hN1 : N ≤ 32) (c : Bm) (hok : c.ok w0) (hk : Go.bits .and .i64 c.x 7 = 3) :
    Calls Try.prog 64 #[.pointer (some ⟨P, 0, none⟩), .pointer (some ⟨R, 0, none⟩), .agg (bC c)] w fun e w' => e = .returned (.bool true) ∧ Bacted w0 P R n N k ps rs L w' := by
  have h1 := bstart h (bC c) 96
  have HI := Lib.hid (And.intro hi (And.intro (hi.fit (by omega)) (fun m hm => Nat.lt_of_le_of_lt (hi.few m hm) (by omega : k < 1000000))))
  have HOK := Lib.hid hok
  obtain ⟨cx, ci, ct, cd, co, ka, kc, KA⟩ := c
  unfold bC at h1 ⊢
  dsimp only at h1 hk ⊢
  obtain ⟨kl, hkl⟩ : ∃ kl, kl = KA.length := ⟨_, rfl⟩
  rw [← hkl] at h1 ⊢
  have HKL := Lib.hid hkl
  generalize hqq : w.heap.size = q at h1
  have HQQ := Lib.hid hqq
  have H1 := Lib.hid h1
  obtain ⟨kk, hkk⟩ : ∃ kk, kk = Go.bits .and .i64 cx 7 := ⟨_, rfl⟩
  rw [← hkk] at hk
  have HKK := Lib.hid hkk.symm
  clear hkk h hqq h1 hok hi hkl
  subst hk
  have hmod := HKK.out
  go_enter Try.func64, Try.ntmps64
  have h4 := H1.out.drew
  have hb := h4.blk (b := q) (C := #[.int .i64 cx, .int .i64 ci, .int .i64 ct, .int .u8 (cd.toNat : Int), .bool co, .slice ka kl kc]) (T := 96) (by simp)
  go_upto_region 8 with fail
  have hqq := HQQ.out
  rw [hqq]
  clear hmod hqq
  go_region_held3 (fun w' => w'.cell? ⟨q, 1, none⟩ = some (.int .i64 ci) ∧ w'.cell? ⟨q, 2, none⟩ = some (.int .i64 ct) ∧ w'.cell? ⟨q, 3, none⟩ = some (.int .u8 (cd.toNat : Int)) ∧ w'.cell? ⟨q, 4, none⟩ = some (.bool co))
    (first | assumption | exact ⟨Blk.cell hb 1, Blk.cell hb 2, Blk.cell hb 3, Blk.cell hb 4⟩)
    (first
      | (go_at_call 54; refine (bflush_calls h4 ci).mono ?_; rintro e w2 ⟨rfl, h4⟩; have hb := h4.blk (b := q) (C := #[.int .i64 cx, .int .i64 ci, .int .i64 ct, .int .u8 (cd.toNat : Int), .bool co, .slice ka kl kc]) (T := 96) (by simp))
      | (go_at_call 97; refine (rbflush_calls (h4.front 1 rfl) HI.out.2.1 HI.out.2.2 ci).mono ?_; rintro e w2 ⟨rfl, h4⟩; have h4 := h4.front 1 rfl; have hb := h4.blk (b := q) (C := #[.int .i64 cx, .int .i64 ci, .int .i64 ct, .int .u8 (cd.toNat : Int), .bool co, .slice ka kl kc]) (T := 96) (by simp)))
  all_goals (
    have h5 : Sp w0 (bay P ps n (b.flush ci) :: rbay R rs n (b.flush ci) :: blk q #[.int .i64 cx, .int .i64 ci, .int .i64 ct, .int .u8 (cd.toNat : Int), .bool co, .slice ka kl kc] 96 :: L) _ := h4
    have H4 := Lib.hid (bstop h5)
    clear h4 h5 hb
    go_wp2
    go_ret)
  all_goals exact ⟨rfl, _, H4.out, HI.out.1.flush (by omega) ci⟩
set_option maxHeartbeats 16000000 in
set_option maxRecDepth 100000 in
theorem bact_write (h : Sp w0 (bay P ps n b :: rbay R rs n b :: L) w) (k : Nat) (hi : Bi b N k) (hk1 : k < 999999) (hN1 : N ≤ 32) (c : Bm) (hok : c.ok w0) (hk : Go.bits .and .i64 c.x 7 ≠ 2 ∧ Go.bits .and .i64 c.x 7 ≠ 3 ∧ Go.bits .and .i64 c.x 7 ≠ 4 ∧ Go.bits .and .i64 c.x 7 ≠ 5 ∧ Go.bits .and .i64 c.x 7 ≠ 6 ∧ Go.bits .and .i64 c.x 7 ≠ 7) :
    Calls Try.prog 64 #[.pointer (some ⟨P, 0, none⟩), .pointer (some ⟨R, 0, none⟩), .agg (bC c)] w fun e w' => e = .returned (.bool true) ∧ Bacted w0 P R n N k ps rs L w' := by
  have h1 := bstart h (bC c) 96
  have HI := Lib.hid (And.intro hi (And.intro (hi.fit (by omega)) (fun m hm => Nat.lt_of_le_of_lt (hi.few m hm) (by omega : k < 1000000))))
  have HOK := Lib.hid hok
  obtain ⟨s, hs⟩ : ∃ s, s = sect c.d c.odd := ⟨_, rfl⟩
  have HS := Lib.hid (fun wx => hs ▸ bsector_calls c.d c.odd wx)
  clear hs
  obtain ⟨cx, ci, ct, cd, co, ka, kc, KA⟩ := c
  unfold bC at h1 ⊢
  dsimp only at h1 HS hk ⊢
  obtain ⟨kl, hkl⟩ : ∃ kl, kl = KA.length := ⟨_, rfl⟩
  rw [← hkl] at h1 ⊢
  have HKL := Lib.hid hkl
  generalize hqq : w.heap.size = q at h1
  have HQQ := Lib.hid hqq
  have H1 := Lib.hid h1
  obtain ⟨kk, hkk⟩ : ∃ kk, kk = Go.bits .and .i64 cx 7 := ⟨_, rfl⟩
  rw [← hkk] at hk
  have HKK := Lib.hid hkk.symm
  clear hkk h hqq h1 hok hi hkl
  obtain ⟨n0, n1, n2, n3, n4, n5⟩ := hk
  have q0 : (kk == 2) = false := beq_eq_false_iff_ne.2 n0
  have q1 : (kk == 3) = false := beq_eq_false_iff_ne.2 n1
  have q2 : (kk == 4) = false := beq_eq_false_iff_ne.2 n2
  have q3 : (kk == 5) = false := beq_eq_false_iff_ne.2 n3
  have q4 : (kk == 6) = false := beq_eq_false_iff_ne.2 n4
  have q5 : (kk == 7) = false := beq_eq_false_iff_ne.2 n5
  clear n0 n1 n2 n3 n4 n5
  have hmod := HKK.out
  go_enter Try.func64, Try.ntmps64
  have h4 := H1.out.drew
  have hb := h4.blk (b := q) (C := #[.int .i64 cx, .int .i64 ci, .int .i64 ct, .int .u8 (cd.toNat : Int), .bool co, .slice ka kl kc]) (T := 96) (by simp)
  go_upto_region 2 with fail
  have hqq := HQQ.out
  rw [hqq]
  clear hmod hqq
  go_region_held3 (fun w' => w'.cell? ⟨q, 1, none⟩ = some (.int .i64 ci) ∧ w'.cell? ⟨q, 2, none⟩ = some (.int .i64 ct) ∧ w'.cell? ⟨q, 3, none⟩ = some (.int .u8 (cd.toNat : Int)) ∧ w'.cell? ⟨q, 4, none⟩ = some (.bool co))
    (first | assumption | exact ⟨Blk.cell hb 1, Blk.cell hb 2, Blk.cell hb 3, Blk.cell hb 4⟩)
    (first
      | (go_at_call 53; refine (HS.out _).mono ?_; rintro e w2 ⟨rfl, b2⟩; have h4 := h4.step b2; have hb := h4.blk (b := q) (C := #[.int .i64 cx, .int .i64 ci, .int .i64 ct, .int .u8 (cd.toNat : Int), .bool co, .slice ka kl kc]) (T := 96) (by simp))
      | (go_at_call 52; refine (bwrite_calls h4 HI.out.2.2 ci ct s).mono ?_; rintro e w2 ⟨rfl, h4⟩; have hb := h4.blk (b := q) (C := #[.int .i64 cx, .int .i64 ci, .int .i64 ct, .int .u8 (cd.toNat : Int), .bool co, .slice ka kl kc]) (T := 96) (by simp))
      | (go_at_call 101; refine (rbwrite_calls (h4.front 1 rfl) HI.out.2.1 HI.out.2.2 ci ct s).mono ?_; rintro e w2 ⟨rfl, h4⟩; have h4 := h4.front 1 rfl; have hb := h4.blk (b := q) (C := #[.int .i64 cx, .int .i64 ci, .int .i64 ct, .int .u8 (cd.toNat : Int), .bool co, .slice ka kl kc]) (T := 96) (by simp)))
  all_goals (
    have h5 : Sp w0 (bay P ps n (b.write ci ct s) :: rbay R rs n (b.write ci ct s) :: blk q #[.int .i64 cx, .int .i64 ci, .int .i64 ct, .int .u8 (cd.toNat : Int), .bool co, .slice ka kl kc] 96 :: L) _ := h4
    have H4 := Lib.hid (bstop h5)
    clear h4 h5 hb
    go_wp2
    go_ret)
  all_goals exact ⟨rfl, _, H4.out, HI.out.1.write (by omega) ci ct s⟩
end
end Go.Proofs.Ytahdhkhgokggbaa.Bay
