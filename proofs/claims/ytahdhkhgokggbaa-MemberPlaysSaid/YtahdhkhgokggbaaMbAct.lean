/- One call of a member and of the document's; walked. -/
import Derived.Test.YtahdhkhgokggbaaRmRot
import Derived.Test.YtahdhkhgokggbaaMbActs
import Derived.Deep.RegionHeld3
namespace Go.Proofs.Ytahdhkhgokggbaa.Member
open Go.RowKit Go.Proofs.Ytahdhkhgokggbaa.Mem Go.Proofs.Ytahdhkhgokggbaa.Sep Go.Proofs.Ytahdhkhgokggbaa.Opn
open Go.Proofs.YtahdhkhgokggbaaW.PrintWords hiding bt
set_option linter.unusedVariables false
set_option linter.unusedSimpArgs false

/-- What is so behind an act. -/
def Acted (w0 : World) (F G n : Nat) (m : Mb) (L : List Asn) (w' : World) : Prop := ∃ m', Sp w0 (member F n m' :: rmem G n m' :: L) w' ∧ m'.q.length ≤ m.q.length + 1
theorem tmod9 (x : Int) : -9 < x.tmod 9 ∧ x.tmod 9 < 9 := by
  have h := Int.tmod_lt_of_pos x (show (0 : Int) < 9 by decide)
  have := Int.tmod_lt_of_pos (-x) (show (0 : Int) < 9 by decide)
  rw [Int.neg_tmod] at this
  exact ⟨by omega, h⟩
theorem put_few (m : Mb) (i : Int) (s : ByteArray) : (m.put i s).q.length ≤ m.q.length + 1 := by unfold Mb.put; split <;> simp
theorem rot_few (m : Mb) (i : Int) (s : ByteArray) : (m.rot i s).q.length ≤ m.q.length + 1 := by
  unfold Mb.rot
  split
  · exact Nat.le_succ_of_le (List.length_filter_le _ _)
  · omega
section
variable {w0 w : World} {F G : Nat} {m : Mb} {L : List Asn} {n : Nat}
/-- The cells of an act. -/
def aC (c : Am) (kl : Nat) : Array Value := #[.int .i64 c.x, .int .i64 c.i, .int .u8 (c.d.toNat : Int), .bool c.odd, .slice c.ka kl c.kc]
theorem start (h : Sp w0 (member F n m :: rmem G n m :: L) w) (C : Array Value) (T : TypeId) : Sp w0 (member F n m :: rmem G n m :: blk w.heap.size C T :: L) (w.alloc (.cells C T)) := by
  have h1 := (h.new C T).front 1 rfl
  exact h1.front 2 rfl |>.front 1 rfl
theorem stop1 {b : Nat} {C : Array Value} {T : TypeId} {m1 m2 : Mb} (h : Sp w0 (member F n m1 :: rmem G n m2 :: blk b C T :: L) w) : Sp w0 (member F n m1 :: rmem G n m2 :: L) w := by
  have h1 := (h.front 2 rfl).tail
  exact h1
set_option maxHeartbeats 8000000 in
set_option maxRecDepth 100000 in
theorem act_read (h : Sp w0 (member F n m :: rmem G n m :: L) w) (hq : m.q.length < 1000000) (c : Am) (kl : Nat) (hk : c.x.tmod 9 = 2 ∨ c.x.tmod 9 = -2 ∨ c.x.tmod 9 = 8 ∨ c.x.tmod 9 = -8) :
    Calls Try.prog 41 #[.pointer (some ⟨F, 0, none⟩), .pointer (some ⟨G, 0, none⟩), .agg (aC c kl)] w fun e w' => e = .returned (.bool true) ∧ Acted w0 F G n m L w' := by
  have h1 := start h (aC c kl) 46
  have HR := Lib.hid (read_calls h1 c.i)
  obtain ⟨cx, ci, cd, co, ka, kc, K⟩ := c
  unfold aC at h1 HR ⊢
  dsimp only at h1 HR hk ⊢
  have hbq := Blk.new w #[.int .i64 cx, .int .i64 ci, .int .u8 (cd.toNat : Int), .bool co, .slice ka kl kc] 46
  generalize hqq : w.heap.size = q at h1 HR hbq
  have HQ := Lib.hid hq
  obtain ⟨kk, hkk⟩ : ∃ kk, kk = cx.tmod 9 := ⟨_, rfl⟩
  rw [← hkk] at hk
  have HKK := Lib.hid hkk.symm
  have HQQ := Lib.hid hqq
  clear hkk h hq hbq hqq h1
  rcases hk with rfl | rfl | rfl | rfl
  all_goals
    have hmod := HKK.out
    go_enter Try.func41, Try.ntmps41
    go_wp2_with fail
    have hqq := HQQ.out
    rw [hqq]
    refine HR.out.mono ?_
    rintro e w2 ⟨rfl, h2⟩
    have c1 := (h2.blk (b := q) (C := #[.int .i64 cx, .int .i64 ci, .int .u8 (cd.toNat : Int), .bool co, .slice ka kl kc]) (T := 46) (by simp)).cell 1
    have HRR := Lib.hid (rread_calls (h2.front 1 rfl) (by have := HQ.out; omega) ci)
    clear h2 hmod hqq
    go_wp2_with fail
    refine HRR.out.mono ?_
    rintro e w3 ⟨rfl, h3⟩
    have h4 := h3.front 1 rfl
    have h4 : Sp w0 (member F n (m.read ci) :: rmem G n (m.read ci) :: blk q #[.int .i64 cx, .int .i64 ci, .int .u8 (cd.toNat : Int), .bool co, .slice ka kl kc] 46 :: L) w3 := h4
    have H4 := Lib.hid (stop1 h4)
    clear h3 h4
    go_wp2
    go_ret
    exact ⟨rfl, _, H4.out, by unfold Mb.read; split <;> simp⟩
set_option maxHeartbeats 16000000 in
set_option maxRecDepth 100000 in
theorem act_flush (h : Sp w0 (member F n m :: rmem G n m :: L) w) (hq : m.q.length < 1000000) (c : Am) (kl : Nat) (hk : c.x.tmod 9 = 3 ∨ c.x.tmod 9 = -3) :
    Calls Try.prog 41 #[.pointer (some ⟨F, 0, none⟩), .pointer (some ⟨G, 0, none⟩), .agg (aC c kl)] w fun e w' => e = .returned (.bool true) ∧ Acted w0 F G n m L w' := by
  have h1 := start h (aC c kl) 46
  have HR := Lib.hid (flush_calls h1)
  obtain ⟨cx, ci, cd, co, ka, kc, K⟩ := c
  unfold aC at h1 HR ⊢
  dsimp only at h1 HR hk ⊢
  have hbq := Blk.new w #[.int .i64 cx, .int .i64 ci, .int .u8 (cd.toNat : Int), .bool co, .slice ka kl kc] 46
  generalize hqq : w.heap.size = q at h1 HR hbq
  have HQ := Lib.hid hq
  obtain ⟨kk, hkk⟩ : ∃ kk, kk = cx.tmod 9 := ⟨_, rfl⟩
  rw [← hkk] at hk
  have HKK := Lib.hid hkk.symm
  have HQQ := Lib.hid hqq
  clear hkk h hq hbq hqq h1
  rcases hk with rfl | rfl
  all_goals
    have hmod := HKK.out
    go_enter Try.func41, Try.ntmps41
    go_wp2_with fail
    have hqq := HQQ.out
    rw [hqq]
    refine HR.out.mono ?_
    rintro e w2 ⟨rfl, h2⟩
    have HRR := Lib.hid (rflush_calls (h2.front 1 rfl) (by have := HQ.out; omega))
    clear h2 hmod hqq
    go_wp2_with fail
    refine HRR.out.mono ?_
    rintro e w3 ⟨rfl, h3⟩
    have h4 := h3.front 1 rfl
    have h4 : Sp w0 (member F n m.flush :: rmem G n m.flush :: blk q #[.int .i64 cx, .int .i64 ci, .int .u8 (cd.toNat : Int), .bool co, .slice ka kl kc] 46 :: L) w3 := h4
    have H4 := Lib.hid (stop1 h4)
    clear h3 h4
    go_wp2
    go_ret
    exact ⟨rfl, _, H4.out, by unfold Mb.flush; split <;> simp⟩
set_option maxHeartbeats 16000000 in
set_option maxRecDepth 100000 in
theorem act_crash (h : Sp w0 (member F n m :: rmem G n m :: L) w) (hq : m.q.length < 1000000) (c : Am) (kl : Nat) (KK : List Nat) (hKK : KK.length = kl) (hkl : kl ≤ 9223372036854775807) (hU : ∀ w', Below w0.heap.size w0 w' → U64s w' c.ka KK) (hk : c.x.tmod 9 = 4 ∨ c.x.tmod 9 = -4) :
    Calls Try.prog 41 #[.pointer (some ⟨F, 0, none⟩), .pointer (some ⟨G, 0, none⟩), .agg (aC c kl)] w fun e w' => e = .returned (.bool true) ∧ Acted w0 F G n m L w' := by
  have h1 := start h (aC c kl) 46
  have HR := Lib.hid (by have := crash_calls h1 (by omega) c.ka c.kc KK (by omega) (fun L' w' hs => hU w' hs.bel); rw [hKK] at this; exact this)
  obtain ⟨cx, ci, cd, co, ka, kc, K⟩ := c
  unfold aC at h1 HR ⊢
  dsimp only at h1 HR hk hU ⊢
  have hbq := Blk.new w #[.int .i64 cx, .int .i64 ci, .int .u8 (cd.toNat : Int), .bool co, .slice ka kl kc] 46
  generalize hqq : w.heap.size = q at h1 HR hbq
  have HQ := Lib.hid hq
  obtain ⟨kk, hkk⟩ : ∃ kk, kk = cx.tmod 9 := ⟨_, rfl⟩
  rw [← hkk] at hk
  have HKK := Lib.hid hkk.symm
  have HQQ := Lib.hid hqq
  have HU := Lib.hid (And.intro hU hKK)
  clear hkk h hq hbq hqq h1 hU hKK
  rcases hk with rfl | rfl
  all_goals
    have hmod := HKK.out
    go_enter Try.func41, Try.ntmps41
    go_wp2_with fail
    have hqq := HQQ.out
    rw [hqq]
    refine HR.out.mono ?_
    rintro e w2 ⟨rfl, h2⟩
    have c1 := (h2.blk (b := q) (C := #[.int .i64 cx, .int .i64 ci, .int .u8 (cd.toNat : Int), .bool co, .slice ka kl kc]) (T := 46) (by simp)).cell 4
    have hrr := rcrash_calls (h2.front 1 rfl) (by have := HQ.out; omega) ka kc KK (by have := HU.out.2; omega) (fun L' w' hs => HU.out.1 w' hs.bel)
    rw [HU.out.2] at hrr
    have HRR := Lib.hid hrr
    clear h2 hmod hqq hrr
    go_wp2_with fail
    refine HRR.out.mono ?_
    rintro e w3 ⟨rfl, h3⟩
    have h4 := h3.front 1 rfl
    have h4 : Sp w0 (member F n (m.crash KK) :: rmem G n (m.crash KK) :: blk q #[.int .i64 cx, .int .i64 ci, .int .u8 (cd.toNat : Int), .bool co, .slice ka kl kc] 46 :: L) w3 := h4
    have H4 := Lib.hid (stop1 h4)
    clear h3 h4
    go_wp2
    go_ret
    exact ⟨rfl, _, H4.out, by unfold Mb.crash; split <;> simp⟩
set_option maxHeartbeats 16000000 in
set_option maxRecDepth 100000 in
theorem act_replace (h : Sp w0 (member F n m :: rmem G n m :: L) w) (hq : m.q.length < 1000000) (c : Am) (kl : Nat) (hn1 : 1 ≤ n) (hn : n ≤ 256) (hk : c.x.tmod 9 = 7 ∨ c.x.tmod 9 = -7) :
    Calls Try.prog 41 #[.pointer (some ⟨F, 0, none⟩), .pointer (some ⟨G, 0, none⟩), .agg (aC c kl)] w fun e w' => e = .returned (.bool true) ∧ Acted w0 F G n m L w' := by
  have h1 := start h (aC c kl) 46
  have HR := Lib.hid (replace_calls h1 hn1 hn)
  obtain ⟨cx, ci, cd, co, ka, kc, K⟩ := c
  unfold aC at h1 HR ⊢
  dsimp only at h1 HR hk ⊢
  have hbq := Blk.new w #[.int .i64 cx, .int .i64 ci, .int .u8 (cd.toNat : Int), .bool co, .slice ka kl kc] 46
  generalize hqq : w.heap.size = q at h1 HR hbq
  have HQ := Lib.hid hq
  obtain ⟨kk, hkk⟩ : ∃ kk, kk = cx.tmod 9 := ⟨_, rfl⟩
  rw [← hkk] at hk
  have HKK := Lib.hid hkk.symm
  have HQQ := Lib.hid hqq
  clear hkk h hq hbq hqq h1
  rcases hk with rfl | rfl
  all_goals
    have hmod := HKK.out
    go_enter Try.func41, Try.ntmps41
    go_wp2_with fail
    have hqq := HQQ.out
    rw [hqq]
    refine HR.out.mono ?_
    rintro e w2 ⟨rfl, h2⟩
    have HRR := Lib.hid (rreplace_calls (h2.front 1 rfl) hn1 hn)
    clear h2 hmod hqq
    go_wp2_with fail
    refine HRR.out.mono ?_
    rintro e w3 ⟨rfl, h3⟩
    have h4 := h3.front 1 rfl
    have h4 : Sp w0 (member F n m.replace :: rmem G n m.replace :: blk q #[.int .i64 cx, .int .i64 ci, .int .u8 (cd.toNat : Int), .bool co, .slice ka kl kc] 46 :: L) w3 := h4
    have H4 := Lib.hid (stop1 h4)
    clear h3 h4
    go_wp2
    go_ret
    exact ⟨rfl, _, H4.out, by unfold Mb.replace; simp⟩
set_option maxHeartbeats 16000000 in
set_option maxRecDepth 100000 in
theorem act_fail (h : Sp w0 (member F n m :: rmem G n m :: L) w) (hq : m.q.length < 1000000) (c : Am) (kl : Nat) (hk : c.x.tmod 9 = 6 ∨ c.x.tmod 9 = -6) :
    Calls Try.prog 41 #[.pointer (some ⟨F, 0, none⟩), .pointer (some ⟨G, 0, none⟩), .agg (aC c kl)] w fun e w' => e = .returned (.bool true) ∧ Acted w0 F G n m L w' := by
  have h1 := start h (aC c kl) 46
  have HR := Lib.hid (fail_calls h1)
  obtain ⟨cx, ci, cd, co, ka, kc, K⟩ := c
  unfold aC at h1 HR ⊢
  dsimp only at h1 HR hk ⊢
  have hbq := Blk.new w #[.int .i64 cx, .int .i64 ci, .int .u8 (cd.toNat : Int), .bool co, .slice ka kl kc] 46
  generalize hqq : w.heap.size = q at h1 HR hbq
  have HQ := Lib.hid hq
  obtain ⟨kk, hkk⟩ : ∃ kk, kk = cx.tmod 9 := ⟨_, rfl⟩
  rw [← hkk] at hk
  have HKK := Lib.hid hkk.symm
  have HQQ := Lib.hid hqq
  have H1 := Lib.hid (stop1 h1)
  clear hkk h hq hbq hqq h1
  cases co
  · rcases hk with rfl | rfl
    all_goals
      have hmod := HKK.out
      go_enter Try.func41, Try.ntmps41
      go_wp2
      go_ret
      exact ⟨rfl, _, H1.out, by omega⟩
  · rcases hk with rfl | rfl
    all_goals
      have hmod := HKK.out
      go_enter Try.func41, Try.ntmps41
      go_wp2_with fail
      have hqq := HQQ.out
      rw [hqq]
      refine HR.out.mono ?_
      rintro e w2 ⟨rfl, h2⟩
      have HRR := Lib.hid (rfail_calls (h2.front 1 rfl))
      clear h2 hmod hqq
      go_wp2_with fail
      refine HRR.out.mono ?_
      rintro e w3 ⟨rfl, h3⟩
      have h4 := h3.front 1 rfl
      have h4 : Sp w0 (member F n m.fail :: rmem G n m.fail :: blk q #[.int .i64 cx, .int .i64 ci, .int .u8 (cd.toNat : Int), .bool true, .slice ka kl kc] 46 :: L) w3 := h4
      have H4 := Lib.hid (stop1 h4)
      clear h3 h4
      go_wp2
      go_ret
      exact ⟨rfl, _, H4.out, by unfold Mb.fail; simp⟩
set_option maxHeartbeats 16000000 in
set_option maxRecDepth 100000 in
theorem act_rot (h : Sp w0 (member F n m :: rmem G n m :: L) w) (hq : m.q.length < 1000000) (c : Am) (kl : Nat) (hk : c.x.tmod 9 = 5 ∨ c.x.tmod 9 = -5) :
    Calls Try.prog 41 #[.pointer (some ⟨F, 0, none⟩), .pointer (some ⟨G, 0, none⟩), .agg (aC c kl)] w fun e w' => e = .returned (.bool true) ∧ Acted w0 F G n m L w' := by
  obtain ⟨s, hs⟩ : ∃ s, s = sect c.d c.odd := ⟨_, rfl⟩
  have HS := Lib.hid (fun wx => hs ▸ sector_calls c.d c.odd wx)
  clear hs
  have h1 := start h (aC c kl) 46
  obtain ⟨cx, ci, cd, co, ka, kc, K⟩ := c
  unfold aC at h1 ⊢
  dsimp only at h1 hk HS ⊢
  have hbq := Blk.new w #[.int .i64 cx, .int .i64 ci, .int .u8 (cd.toNat : Int), .bool co, .slice ka kl kc] 46
  generalize hqq : w.heap.size = q at h1 hbq
  have HQ := Lib.hid hq
  obtain ⟨kk, hkk⟩ : ∃ kk, kk = cx.tmod 9 := ⟨_, rfl⟩
  rw [← hkk] at hk
  have HKK := Lib.hid hkk.symm
  have HQQ := Lib.hid hqq
  have H1 := Lib.hid h1
  clear hkk h hq hbq hqq h1
  rcases hk with rfl | rfl
  all_goals
    have hmod := HKK.out
    go_enter Try.func41, Try.ntmps41
    have h4 := H1.out.drew
    have hb := h4.blk (b := q) (C := #[.int .i64 cx, .int .i64 ci, .int .u8 (cd.toNat : Int), .bool co, .slice ka kl kc]) (T := 46) (by simp)
    go_upto_region 19 with fail
    have hqq := HQQ.out
    rw [hqq]
    clear hmod hqq
    go_region_held3 (fun w' => w'.cell? ⟨q, 1, none⟩ = some (.int .i64 ci) ∧ w'.cell? ⟨q, 2, none⟩ = some (.int .u8 (cd.toNat : Int)) ∧ w'.cell? ⟨q, 3, none⟩ = some (.bool co))
      (first | assumption | exact ⟨Blk.cell hb 1, Blk.cell hb 2, Blk.cell hb 3⟩)
      (first
        | (go_at_call 25; refine (HS.out _).mono ?_; rintro e w2 ⟨rfl, b2⟩; have h4 := h4.step b2; have hb := h4.blk (b := q) (C := #[.int .i64 cx, .int .i64 ci, .int .u8 (cd.toNat : Int), .bool co, .slice ka kl kc]) (T := 46) (by simp))
        | (go_at_call 44; refine (rot_calls h4 (by have := HQ.out; omega) ci s).mono ?_; rintro e w2 ⟨rfl, h4⟩; have hb := h4.blk (b := q) (C := #[.int .i64 cx, .int .i64 ci, .int .u8 (cd.toNat : Int), .bool co, .slice ka kl kc]) (T := 46) (by simp))
        | (go_at_call 83; refine (rrot_calls (h4.front 1 rfl) (by have := HQ.out; omega) ci s).mono ?_; rintro e w2 ⟨rfl, h4⟩; have h4 := h4.front 1 rfl; have hb := h4.blk (b := q) (C := #[.int .i64 cx, .int .i64 ci, .int .u8 (cd.toNat : Int), .bool co, .slice ka kl kc]) (T := 46) (by simp)))
    all_goals (
      have h5 : Sp w0 (member F n (m.rot ci s) :: rmem G n (m.rot ci s) :: blk q #[.int .i64 cx, .int .i64 ci, .int .u8 (cd.toNat : Int), .bool co, .slice ka kl kc] 46 :: L) _ := h4
      have H4 := Lib.hid (stop1 h5)
      clear h4 h5 hb
      go_wp2
      go_ret)
    all_goals exact ⟨rfl, _, H4.out, rot_few _ _ _⟩
set_option maxHeartbeats 16000000 in
set_option maxRecDepth 100000 in
theorem act_put (h : Sp w0 (member F n m :: rmem G n m :: L) w) (hq : m.q.length < 1000000) (c : Am) (kl : Nat) (hk : c.x.tmod 9 ≠ 2 ∧ c.x.tmod 9 ≠ -2 ∧ c.x.tmod 9 ≠ 8 ∧ c.x.tmod 9 ≠ -8 ∧ c.x.tmod 9 ≠ 3 ∧ c.x.tmod 9 ≠ -3 ∧ c.x.tmod 9 ≠ 4 ∧ c.x.tmod 9 ≠ -4 ∧ c.x.tmod 9 ≠ 5 ∧ c.x.tmod 9 ≠ -5 ∧ c.x.tmod 9 ≠ 6 ∧ c.x.tmod 9 ≠ -6 ∧ c.x.tmod 9 ≠ 7 ∧ c.x.tmod 9 ≠ -7) :
    Calls Try.prog 41 #[.pointer (some ⟨F, 0, none⟩), .pointer (some ⟨G, 0, none⟩), .agg (aC c kl)] w fun e w' => e = .returned (.bool true) ∧ Acted w0 F G n m L w' := by
  obtain ⟨s, hs⟩ : ∃ s, s = sect c.d c.odd := ⟨_, rfl⟩
  have HS := Lib.hid (fun wx => hs ▸ sector_calls c.d c.odd wx)
  clear hs
  have h1 := start h (aC c kl) 46
  obtain ⟨cx, ci, cd, co, ka, kc, K⟩ := c
  unfold aC at h1 ⊢
  dsimp only at h1 hk HS ⊢
  have hbq := Blk.new w #[.int .i64 cx, .int .i64 ci, .int .u8 (cd.toNat : Int), .bool co, .slice ka kl kc] 46
  generalize hqq : w.heap.size = q at h1 hbq
  have HQ := Lib.hid hq
  obtain ⟨kk, hkk⟩ : ∃ kk, kk = cx.tmod 9 := ⟨_, rfl⟩
  rw [← hkk] at hk
  have HKK := Lib.hid hkk.symm
  have HQQ := Lib.hid hqq
  have H1 := Lib.hid h1
  clear hkk h hq hbq hqq h1
  obtain ⟨n0, n1, n2, n3, n4, n5, n6, n7, n8, n9, n10, n11, n12, n13⟩ := hk
  have q0 : (kk == 2) = false := beq_eq_false_iff_ne.2 n0
  have q1 : (kk == -2) = false := beq_eq_false_iff_ne.2 n1
  have q2 : (kk == 8) = false := beq_eq_false_iff_ne.2 n2
  have q3 : (kk == -8) = false := beq_eq_false_iff_ne.2 n3
  have q4 : (kk == 3) = false := beq_eq_false_iff_ne.2 n4
  have q5 : (kk == -3) = false := beq_eq_false_iff_ne.2 n5
  have q6 : (kk == 4) = false := beq_eq_false_iff_ne.2 n6
  have q7 : (kk == -4) = false := beq_eq_false_iff_ne.2 n7
  have q8 : (kk == 5) = false := beq_eq_false_iff_ne.2 n8
  have q9 : (kk == -5) = false := beq_eq_false_iff_ne.2 n9
  have q10 : (kk == 6) = false := beq_eq_false_iff_ne.2 n10
  have q11 : (kk == -6) = false := beq_eq_false_iff_ne.2 n11
  have q12 : (kk == 7) = false := beq_eq_false_iff_ne.2 n12
  have q13 : (kk == -7) = false := beq_eq_false_iff_ne.2 n13
  clear n0 n1 n2 n3 n4 n5 n6 n7 n8 n9 n10 n11 n12 n13
  · have hmod := HKK.out
    go_enter Try.func41, Try.ntmps41
    have h4 := H1.out.drew
    have hb := h4.blk (b := q) (C := #[.int .i64 cx, .int .i64 ci, .int .u8 (cd.toNat : Int), .bool co, .slice ka kl kc]) (T := 46) (by simp)
    go_upto_region 2 with fail
    have hqq := HQQ.out
    rw [hqq]
    clear hmod hqq
    go_region_held3 (fun w' => w'.cell? ⟨q, 1, none⟩ = some (.int .i64 ci) ∧ w'.cell? ⟨q, 2, none⟩ = some (.int .u8 (cd.toNat : Int)) ∧ w'.cell? ⟨q, 3, none⟩ = some (.bool co))
      (first | assumption | exact ⟨Blk.cell hb 1, Blk.cell hb 2, Blk.cell hb 3⟩)
      (first
        | (go_at_call 25; refine (HS.out _).mono ?_; rintro e w2 ⟨rfl, b2⟩; have h4 := h4.step b2; have hb := h4.blk (b := q) (C := #[.int .i64 cx, .int .i64 ci, .int .u8 (cd.toNat : Int), .bool co, .slice ka kl kc]) (T := 46) (by simp))
        | (go_at_call 24; refine (write_calls h4 HQ.out ci s).mono ?_; rintro e w2 ⟨rfl, h4⟩; have hb := h4.blk (b := q) (C := #[.int .i64 cx, .int .i64 ci, .int .u8 (cd.toNat : Int), .bool co, .slice ka kl kc]) (T := 46) (by simp))
        | (go_at_call 86; refine (rput_calls (h4.front 1 rfl) HQ.out ci s).mono ?_; rintro e w2 ⟨rfl, h4⟩; have h4 := h4.front 1 rfl; have hb := h4.blk (b := q) (C := #[.int .i64 cx, .int .i64 ci, .int .u8 (cd.toNat : Int), .bool co, .slice ka kl kc]) (T := 46) (by simp)))
    all_goals (
      have h5 : Sp w0 (member F n (m.put ci s) :: rmem G n (m.put ci s) :: blk q #[.int .i64 cx, .int .i64 ci, .int .u8 (cd.toNat : Int), .bool co, .slice ka kl kc] 46 :: L) _ := h4
      have H4 := Lib.hid (stop1 h5)
      clear h4 h5 hb
      go_wp2
      go_ret)
    all_goals exact ⟨rfl, _, H4.out, put_few _ _ _⟩
theorem act_calls (h : Sp w0 (member F n m :: rmem G n m :: L) w) (hq : m.q.length < 1000000) (c : Am) (kl : Nat) (hn1 : 1 ≤ n) (hn : n ≤ 256) (KK : List Nat) (hKK : KK.length = kl) (hkl : kl ≤ 9223372036854775807) (hU : ∀ w', Below w0.heap.size w0 w' → U64s w' c.ka KK) :
    Calls Try.prog 41 #[.pointer (some ⟨F, 0, none⟩), .pointer (some ⟨G, 0, none⟩), .agg (aC c kl)] w fun e w' => e = .returned (.bool true) ∧ Acted w0 F G n m L w' := by
  by_cases h1 : c.x.tmod 9 = 2 ∨ c.x.tmod 9 = -2 ∨ c.x.tmod 9 = 8 ∨ c.x.tmod 9 = -8
  · exact act_read h hq c kl h1
  by_cases h2 : c.x.tmod 9 = 3 ∨ c.x.tmod 9 = -3
  · exact act_flush h hq c kl h2
  by_cases h3 : c.x.tmod 9 = 4 ∨ c.x.tmod 9 = -4
  · exact act_crash h hq c kl KK hKK hkl hU h3
  by_cases h4 : c.x.tmod 9 = 5 ∨ c.x.tmod 9 = -5
  · exact act_rot h hq c kl h4
  by_cases h5 : c.x.tmod 9 = 6 ∨ c.x.tmod 9 = -6
  · exact act_fail h hq c kl h5
  by_cases h6 : c.x.tmod 9 = 7 ∨ c.x.tmod 9 = -7
  · exact act_replace h hq c kl hn1 hn h6
  exact act_put h hq c kl (by omega)
end
end Go.Proofs.Ytahdhkhgokggbaa.Member
