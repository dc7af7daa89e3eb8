/- One call of both boards, walked: the law's act. -/
import Derived.Test.YtbbhcmfkkkjehaaGreatBdSe
import Derived.Test.YtbbhcmfkkkjehaaGreatBdActs
import Derived.StillTailTactics
namespace Go.Proofs.YtbbhcmfkkkjehaaGreat.Brd
open Go.RowKit Go.Proofs.YtbbhcmfkkkjehaaGreat.Mem Go.Proofs.YtbbhcmfkkkjehaaGreat.Sep Go.Proofs.YtbbhcmfkkkjehaaGreat.Member Go.Proofs.YtbbhcmfkkkjehaaGreat.Bay Go.Proofs.YtbbhcmfkkkjehaaGreat.Lab Go.Proofs.YtbbhcmfkkkjehaaGreat.App Go.Proofs.YtbbhcmfkkkjehaaGreat.B8 Go.Proofs.YtbbhcmfkkkjehaaGreat.CrcS Go.Proofs.YtbbhcmfkkkjehaaGreat.Num
open Go.Proofs.YtbbhcmfkkkjehaaGreatW.PrintWords hiding bt
set_option linter.unusedVariables false
set_option linter.unusedSimpArgs false

theorem fits_true {b : By} {n : Nat} {m t : Int} (h : ¬ fits b n m t = false) : m = (b.M.length : Int) ∧ 100 + t ≤ (n : Int) := by
  have h1 : fits b n m t = true := by
    cases hf : fits b n m t with
    | true => rfl
    | false => exact (h hf).elim
  unfold fits at h1
  have := (Bool.and_eq_true _ _).mp h1
  exact ⟨of_decide_eq_true this.1, of_decide_eq_true this.2⟩
theorem open0_zero {b : By} {n : Nat} (h : openE0 b n = 0) : b.live ≠ [] ∧ b.out = false ∧ 0 < (newl b).ep ∧ (newl b).m = (b.M.length : Int) ∧ 100 + (newl b).t ≤ (n : Int) := by
  unfold openE0 at h
  split at h
  · cases h
  · rename_i h1
    split at h
    · cases h
    · rename_i h2
      split at h
      · cases h
      · rename_i h3
        split at h
        · cases h
        · rename_i h4
          exact ⟨h1, by simpa using h2, by omega, fits_true h4⟩
theorem openE_zero {b : By} {n : Nat} (h : openE b n = 0) : openE0 b n = 0 := by
  by_cases h0 : openE0 b n = 0
  · exact h0
  · rw [(open_stop h0).1] at h; exact h
theorem lok_now {b : By} {n N : Nat} (h : openE b n = 0) (hi : b.M.length = N) (hN : N ≤ 32) : Lok (openNow b n) N := by
  obtain ⟨_, _, h1, h2, _⟩ := open0_zero (openE_zero h)
  have hok := newl_ok h1
  have hd := deads_is b (newl b) b.M.length
  have h3 := hok.st
  have h4 := hok.mr
  unfold openNow nx openL
  exact ⟨hd.1.trans (by rw [h2, hi]), by show (deads b (newl b) b.M.length).st.length = N; rw [hd.2.2.2.1]; omega, by show (deads b (newl b) b.M.length).mr.length = N; rw [hd.2.2.2.2]; omega, by show 0 ≤ (newl b).ep + 1; omega, hN⟩
section
variable {w0 w : World} {L : List Asn} {V B R X Y n N : Nat} {ps rs : List Nat} {b : By} {l : Lb} {x y : Value}
theorem turn4 {A1 A2 A3 A4 : Asn} (h : Sp w0 (A1 :: A2 :: A3 :: A4 :: L) w) : Sp w0 (A3 :: A4 :: A1 :: A2 :: L) w := by
  have g1 : Sp w0 (A4 :: A1 :: A2 :: A3 :: L) w := h.front 3 rfl
  exact g1.front 3 rfl
theorem act_back {A1 A2 A3 A4 A5 A6 : Asn} (h : Sp w0 (A1 :: A2 :: A3 :: A4 :: A5 :: A6 :: L) w) : Sp w0 (A5 :: A2 :: A4 :: A1 :: A3 :: L) w := by
  have g0 : Sp w0 (A6 :: A1 :: A2 :: A3 :: A4 :: A5 :: L) w := h.front 5 rfl
  have g1 : Sp w0 (A3 :: A1 :: A2 :: A4 :: A5 :: L) w := g0.tail.front 2 rfl
  have g2 : Sp w0 (A1 :: A3 :: A2 :: A4 :: A5 :: L) w := g1.front 1 rfl
  have g3 : Sp w0 (A4 :: A1 :: A3 :: A2 :: A5 :: L) w := g2.front 3 rfl
  have g4 : Sp w0 (A2 :: A4 :: A1 :: A3 :: A5 :: L) w := g3.front 3 rfl
  exact g4.front 4 rfl
theorem bcrash_at {KA : Ks} {ka a1 : Option Addr} {c1 n4 : Nat} {KS : List (List Nat)} (h : Sp w0 (bay B ps n b :: row 174 1 (.slice a1 n4 c1) n4 (slv (kept32 KA)) :: L) w) (hk : Wss w0 ka KA) (hf : ∀ m ∈ b.M, m.q.length ≤ 1000000) (hM : b.M.length = N) (hN : N ≤ 32) (hn4 : n4 = (kept32 KA).length) (hKS : KS = kss (kept32 KA)) :
    Calls Tryz.prog 40 #[.pointer (some ⟨B, 0, none⟩), .slice a1 n4 c1] w fun e w' => e = .returned (.tuple #[]) ∧ Sp w0 (bay B ps n (b.crash KS) :: row 174 1 (.slice a1 n4 c1) n4 (slv (kept32 KA)) :: L) w' := by
  have hps := (bayOpen h).1
  subst hn4
  subst hKS
  exact bcrash_calls h hf (by omega) a1 c1 (kept32 KA) (by have := kept_len KA; omega) (kept_small KA) (fun M w' hs => kept_wss hk hs.bel (hs.row (List.mem_append_right _ (List.mem_cons_self ..))))
theorem rbcrash_at {KA : Ks} {ka a1 : Option Addr} {c1 n4 : Nat} {KS : List (List Nat)} (h : Sp w0 (rbay B ps n b :: row 174 1 (.slice a1 n4 c1) n4 (slv (kept32 KA)) :: L) w) (hk : Wss w0 ka KA) (hf : ∀ m ∈ b.M, m.q.length ≤ 1000000) (hM : b.M.length = N) (hN : N ≤ 32) (hn4 : n4 = (kept32 KA).length) (hKS : KS = kss (kept32 KA)) :
    Calls Tryz.prog 52 #[.pointer (some ⟨B, 0, none⟩), .slice a1 n4 c1] w fun e w' => e = .returned (.tuple #[]) ∧ Sp w0 (rbay B ps n (b.crash KS) :: row 174 1 (.slice a1 n4 c1) n4 (slv (kept32 KA)) :: L) w' := by
  have hps := (rbayOpen h).1
  subst hn4
  subst hKS
  exact rbcrash_calls h hf (by omega) a1 c1 (kept32 KA) (by have := kept_len KA; omega) (kept_small KA) (fun M w' hs => kept_wss hk hs.bel (hs.row (List.mem_append_right _ (List.mem_cons_self ..))))
theorem drop3' {A1 A2 A3 A4 : Asn} (h : Sp w0 (A1 :: A2 :: A3 :: A4 :: L) w) : Sp w0 (A1 :: A2 :: A3 :: L) w := by
  have h1 : Sp w0 (A4 :: A1 :: A2 :: A3 :: L) w := h.front 3 rfl
  exact h1.tail
theorem opn2_drop {A : Asn} {w' : World} (h : Opn2 w0 V B R n ps rs b (A :: L) w') : Opn2 w0 V B R n ps rs b L w' := by
  rcases h with ⟨hE, h⟩ | ⟨hE, X, Y, h⟩
  · exact .inl ⟨hE, drop3' h⟩
  · refine .inr ⟨hE, X, Y, ?_⟩
    have h1 : Sp w0 (A :: blk V _ _ :: bay B ps n (opened b n) :: rbay R rs n (opened b n) :: board X B (openNow b n) :: rboard Y R (openNow b n) :: L) w' := h.front 5 rfl
    exact h1.tail
/-- The law's box in front, the bays behind it. -/
theorem bx_in {C : Array Value} {T : TypeId} {A1 A2 A3 : Asn} (h : Sp w0 (A1 :: A2 :: A3 :: L) w) (q : Nat) (hq : w.heap.size = q) : Sp w0 (A2 :: A3 :: A1 :: blk q C T :: L) (w.alloc (.cells C T)) := by
  subst hq
  have h1 : Sp w0 (A1 :: blk w.heap.size C T :: A2 :: A3 :: L) _ := (h.new C T).front 1 rfl
  have h2 : Sp w0 (A3 :: A1 :: blk w.heap.size C T :: A2 :: L) _ := h1.front 3 rfl
  exact h2.front 3 rfl
theorem bx_out {A1 A2 A3 A4 : Asn} (h : Sp w0 (A2 :: A3 :: A1 :: A4 :: L) w) : Sp w0 (A1 :: A2 :: A3 :: L) w := by
  have h1 : Sp w0 (A2 :: A3 :: A1 :: L) w := drop3' h
  exact h1.front 2 rfl
attribute [local irreducible] openE opened openNow By.cut By.crash By.at By.on Bd.fail Bd.replace Bd.advance Bd.failE Bd.replaceE Bd.advanceE

set_option maxHeartbeats 16000000 in
set_option maxRecDepth 100000 in
theorem bact_open (h : Sp w0 (blk V #[.pointer (some ⟨B, 0, none⟩), x, .pointer (some ⟨R, 0, none⟩), y] 37 :: bay B ps n b :: rbay R rs n b :: L) w) (k : Nat) (hi : Bi b N k) (hk9 : k ≤ 900000) (hz : Sz b) (hN1 : 1 ≤ N) (hN : N ≤ 32) (c : Bm) (hok : c.ok w0) (hk : Go.bits .and .i64 c.x 7 = 3) :
    Calls Tryz.prog 38 #[.pointer (some ⟨V, 0, none⟩), .agg (bC c)] w fun e w' => e = .returned (.bool true) ∧ Opn2 w0 V B R n ps rs b L w' := by
  have hsp := fun q (hq : w.heap.size = q) => bx_in (C := bC c) (T := 30) h q hq
  have HIZ := Lib.hid (And.intro hi hz)
  clear hi hz
  have HOK := Lib.hid hok
  obtain ⟨cx, ci, ct, co, ka, kc, KA⟩ := c
  unfold bC at hsp ⊢
  dsimp only at hsp hk ⊢
  obtain ⟨kl, hkl⟩ : ∃ kl, kl = KA.length := ⟨_, rfl⟩
  rw [← hkl] at hsp ⊢
  have HKL := Lib.hid hkl
  obtain ⟨q, hqq⟩ : ∃ q, w.heap.size = q := ⟨_, rfl⟩
  have H1 := Lib.hid (hsp q hqq)
  have HQQ := Lib.hid hqq
  clear h hsp hqq hok hkl
  go_enter Tryz.func38, Tryz.ntmps38
  go_upto_region 3 with fail
  have hqq := HQQ.out
  rw [hqq]
  have h1 := H1.out
  generalize w.alloc (.cells #[.int .i64 cx, .int .i64 ci, .int .i64 ct, .bool co, .slice ka kl kc] 30) = W at h1 ⊢
  clear hqq H1 HQQ
  have h2 : Sp w0 (blk V #[.pointer (some ⟨B, 0, none⟩), x, .pointer (some ⟨R, 0, none⟩), y] 37 :: bay B ps n b :: rbay R rs n b :: blk q #[.int .i64 cx, .int .i64 ci, .int .i64 ct, .bool co, .slice ka kl kc] 30 :: L) W := h1.front 2 rfl
  have HO := Lib.hid (open2_calls h2 k HIZ.out.1 hk9 HIZ.out.2 hN1 hN)
  clear h1 h2
  go_wp2_with fail
  refine HO.out.mono ?_
  rintro e w2 ⟨rfl, h3⟩
  have H3 := Lib.hid h3
  clear h3 HO
  go_wp2
  go_ret
  exact ⟨rfl, opn2_drop H3.out⟩
set_option maxHeartbeats 16000000 in
set_option maxRecDepth 100000 in
theorem bact_cut (h : Sp w0 (blk V #[.pointer (some ⟨B, 0, none⟩), x, .pointer (some ⟨R, 0, none⟩), y] 37 :: bay B ps n b :: rbay R rs n b :: L) w)  (c : Bm) (hok : c.ok w0) (hk : Go.bits .and .i64 c.x 7 = 4) :
    Calls Tryz.prog 38 #[.pointer (some ⟨V, 0, none⟩), .agg (bC c)] w fun e w' => e = .returned (.bool true) ∧ Sp w0 (blk V #[.pointer (some ⟨B, 0, none⟩), x, .pointer (some ⟨R, 0, none⟩), y] 37 :: bay B ps n (b.cut c.t) :: rbay R rs n (b.cut c.t) :: L) w' := by
  have hsp := fun q (hq : w.heap.size = q) => bx_in (C := bC c) (T := 30) h q hq
  have HOK := Lib.hid hok
  obtain ⟨cx, ci, ct, co, ka, kc, KA⟩ := c
  unfold bC at hsp ⊢
  dsimp only at hsp hk ⊢
  obtain ⟨kl, hkl⟩ : ∃ kl, kl = KA.length := ⟨_, rfl⟩
  rw [← hkl] at hsp ⊢
  have HKL := Lib.hid hkl
  obtain ⟨q, hqq⟩ : ∃ q, w.heap.size = q := ⟨_, rfl⟩
  have H1 := Lib.hid (hsp q hqq)
  have HQQ := Lib.hid hqq
  clear h hsp hqq hok hkl
  go_enter Tryz.func38, Tryz.ntmps38
  go_upto_region 5 with fail
  have hqq := HQQ.out
  rw [hqq]
  have h1 := H1.out
  generalize w.alloc (.cells #[.int .i64 cx, .int .i64 ci, .int .i64 ct, .bool co, .slice ka kl kc] 30) = W at h1 ⊢
  clear hqq H1 HQQ
  have h1 := h1.drew
  have hv := h1.blk (b := V) (C := #[.pointer (some ⟨B, 0, none⟩), x, .pointer (some ⟨R, 0, none⟩), y]) (T := 37) (List.mem_cons_of_mem _ (List.mem_cons_of_mem _ (List.mem_cons_self ..)))
  have hq := h1.blk (b := q) (C := #[.int .i64 cx, .int .i64 ci, .int .i64 ct, .bool co, .slice ka kl kc]) (T := 30) (List.mem_cons_of_mem _ (List.mem_cons_of_mem _ (List.mem_cons_of_mem _ (List.mem_cons_self ..))))
  have v0 := hv.cell 0
  have q2 := hq.cell 2
  have HC := Lib.hid (cut_calls h1 ct)
  clear h1 hv hq
  go_still_tail 6, (by kernel_rfl)
  change wpList _ _ _ _ _ W.drew
  go_wp2_with fail
  refine HC.out.mono ?_
  rintro e w2 ⟨rfl, h2⟩
  have h2 : Sp w0 (rbay R rs n b :: bay B ps n (b.cut ct) :: blk V #[.pointer (some ⟨B, 0, none⟩), x, .pointer (some ⟨R, 0, none⟩), y] 37 :: blk q #[.int .i64 cx, .int .i64 ci, .int .i64 ct, .bool co, .slice ka kl kc] 30 :: L) w2 := h2.front 1 rfl
  have h2 := h2.drew
  have hv := h2.blk (b := V) (C := #[.pointer (some ⟨B, 0, none⟩), x, .pointer (some ⟨R, 0, none⟩), y]) (T := 37) (List.mem_cons_of_mem _ (List.mem_cons_of_mem _ (List.mem_cons_self ..)))
  have hq := h2.blk (b := q) (C := #[.int .i64 cx, .int .i64 ci, .int .i64 ct, .bool co, .slice ka kl kc]) (T := 30) (List.mem_cons_of_mem _ (List.mem_cons_of_mem _ (List.mem_cons_of_mem _ (List.mem_cons_self ..))))
  have v2 := hv.cell 2
  have q2 := hq.cell 2
  have HC2 := Lib.hid (rbcut_calls h2 ct)
  clear h2 hv hq HC v0
  go_upto_region 6 with fail
  go_still_tail 6, (by kernel_rfl)
  change wpList _ _ _ _ _ w2.drew
  go_wp2_with fail
  refine HC2.out.mono ?_
  rintro e w3 ⟨rfl, h3⟩
  have h4 : Sp w0 (bay B ps n (b.cut ct) :: rbay R rs n (b.cut ct) :: blk V #[.pointer (some ⟨B, 0, none⟩), x, .pointer (some ⟨R, 0, none⟩), y] 37 :: blk q #[.int .i64 cx, .int .i64 ci, .int .i64 ct, .bool co, .slice ka kl kc] 30 :: L) w3 := h3.front 1 rfl
  have H4 := Lib.hid (bx_out h4)
  clear h3 h4 HC2 v2 q2
  go_wp2
  go_ret
  exact ⟨rfl, H4.out⟩
set_option maxHeartbeats 16000000 in
set_option maxRecDepth 100000 in
theorem bact_crash (h : Sp w0 (blk V #[.pointer (some ⟨B, 0, none⟩), x, .pointer (some ⟨R, 0, none⟩), y] 37 :: bay B ps n b :: rbay R rs n b :: L) w) (k : Nat) (hi : Bi b N k) (hk9 : k < 900000) (hz : Sz b) (hN1 : 1 ≤ N) (hN : N ≤ 32) (c : Bm) (hok : c.ok w0) (hk : Go.bits .and .i64 c.x 7 = 5) :
    Calls Tryz.prog 38 #[.pointer (some ⟨V, 0, none⟩), .agg (bC c)] w fun e w' => e = .returned (.bool true) ∧ ∃ KS, Opn2 w0 V B R n ps rs (b.crash KS) L w' := by
  have hsp := fun q (hq : w.heap.size = q) => bx_in (C := bC c) (T := 30) h q hq
  have HIZ := Lib.hid (And.intro hi hz)
  have HFEW := Lib.hid (fun m (hm : m ∈ b.M) => Nat.le_trans (hi.few m hm) (by omega : k ≤ 1000000))
  clear hi hz
  have HOK := Lib.hid hok
  obtain ⟨cx, ci, ct, co, ka, kc, KA⟩ := c
  unfold bC at hsp ⊢
  dsimp only at hsp hk ⊢
  obtain ⟨kl, hkl⟩ : ∃ kl, kl = KA.length := ⟨_, rfl⟩
  rw [← hkl] at hsp ⊢
  have HKL := Lib.hid hkl
  obtain ⟨q, hqq⟩ : ∃ q, w.heap.size = q := ⟨_, rfl⟩
  have H1 := Lib.hid (hsp q hqq)
  have HQQ := Lib.hid hqq
  clear h hsp hqq hok hkl
  go_enter Tryz.func38, Tryz.ntmps38
  go_upto_region 9 with fail
  have hqq := HQQ.out
  rw [hqq]
  have h1 := H1.out
  generalize w.alloc (.cells #[.int .i64 cx, .int .i64 ci, .int .i64 ct, .bool co, .slice ka kl kc] 30) = W at h1 ⊢
  clear hqq H1 HQQ
  have h1 := h1.drew
  have hL := fun M wx (hx : Sp w0 M wx) => lists_calls hx ⟨cx, ci, ct, co, ka, kc, KA⟩ HOK.out
  unfold bC at hL
  dsimp only at hL
  rw [← HKL.out] at hL
  have HL := Lib.hid hL
  obtain ⟨n4, hn4⟩ : ∃ n4, n4 = (kept32 KA).length := ⟨_, rfl⟩
  have HN4 := Lib.hid hn4
  obtain ⟨KS, hKS⟩ : ∃ KS, KS = kss (kept32 KA) := ⟨_, rfl⟩
  have HKS := Lib.hid hKS
  rw [← hn4] at HL
  clear hL hn4 hKS
  have hv := h1.blk (b := V) (C := #[.pointer (some ⟨B, 0, none⟩), x, .pointer (some ⟨R, 0, none⟩), y]) (T := 37) (List.mem_cons_of_mem _ (List.mem_cons_of_mem _ (List.mem_cons_self ..)))
  have hq := h1.blk (b := q) (C := #[.int .i64 cx, .int .i64 ci, .int .i64 ct, .bool co, .slice ka kl kc]) (T := 30) (List.mem_cons_of_mem _ (List.mem_cons_of_mem _ (List.mem_cons_of_mem _ (List.mem_cons_self ..))))
  go_region_held3 (fun w' => w'.cell? ⟨V, 0, none⟩ = some (.pointer (some ⟨B, 0, none⟩)) ∧ w'.cell? ⟨q, 0, none⟩ = some (.int .i64 cx) ∧ w'.cell? ⟨q, 1, none⟩ = some (.int .i64 ci) ∧ w'.cell? ⟨q, 2, none⟩ = some (.int .i64 ct) ∧ w'.cell? ⟨q, 3, none⟩ = some (.bool co) ∧ w'.cell? ⟨q, 4, none⟩ = some (.slice ka kl kc))
    (first | assumption | exact ⟨Blk.cell hv 0, Blk.cell hq 0, Blk.cell hq 1, Blk.cell hq 2, Blk.cell hq 3, Blk.cell hq 4⟩)
    (first
      | (go_at_call 41; refine (HL.out _ _ h1).mono ?_; rintro e w2 ⟨a1, c1, rfl, h1⟩; have hv := h1.blk (b := V) (C := #[.pointer (some ⟨B, 0, none⟩), x, .pointer (some ⟨R, 0, none⟩), y]) (T := 37) (List.mem_cons_of_mem _ (List.mem_cons_of_mem _ (List.mem_cons_of_mem _ (List.mem_cons_self ..)))); have hq := h1.blk (b := q) (C := #[.int .i64 cx, .int .i64 ci, .int .i64 ct, .bool co, .slice ka kl kc]) (T := 30) (List.mem_cons_of_mem _ (List.mem_cons_of_mem _ (List.mem_cons_of_mem _ (List.mem_cons_of_mem _ (List.mem_cons_self ..))))))
      | (go_at_call 40; refine (bcrash_at (KA := KA) (h1.front 1 rfl) HOK.out.k HFEW.out HIZ.out.1.len hN HN4.out HKS.out).mono ?_; rintro e w2 ⟨rfl, h1⟩; have hv := h1.blk (b := V) (C := #[.pointer (some ⟨B, 0, none⟩), x, .pointer (some ⟨R, 0, none⟩), y]) (T := 37) (List.mem_cons_of_mem _ (List.mem_cons_of_mem _ (List.mem_cons_of_mem _ (List.mem_cons_self ..)))); have hq := h1.blk (b := q) (C := #[.int .i64 cx, .int .i64 ci, .int .i64 ct, .bool co, .slice ka kl kc]) (T := 30) (List.mem_cons_of_mem _ (List.mem_cons_of_mem _ (List.mem_cons_of_mem _ (List.mem_cons_of_mem _ (List.mem_cons_self ..)))))))
  have h3 : Sp w0 (bay B ps n (b.crash KS) :: rbay R rs n b :: blk V #[.pointer (some ⟨B, 0, none⟩), x, .pointer (some ⟨R, 0, none⟩), y] 37 :: blk q #[.int .i64 cx, .int .i64 ci, .int .i64 ct, .bool co, .slice ka kl kc] 30 :: L) _ := drop1 h1
  have h4 : Sp w0 (rbay R rs n b :: bay B ps n (b.crash KS) :: blk V #[.pointer (some ⟨B, 0, none⟩), x, .pointer (some ⟨R, 0, none⟩), y] 37 :: blk q #[.int .i64 cx, .int .i64 ci, .int .i64 ct, .bool co, .slice ka kl kc] 30 :: L) _ := h3.front 1 rfl
  have h1 := h4.drew
  clear h3 h4 hv hq
  go_upto_region 10 with fail
  have hv := h1.blk (b := V) (C := #[.pointer (some ⟨B, 0, none⟩), x, .pointer (some ⟨R, 0, none⟩), y]) (T := 37) (List.mem_cons_of_mem _ (List.mem_cons_of_mem _ (List.mem_cons_self ..)))
  have hq := h1.blk (b := q) (C := #[.int .i64 cx, .int .i64 ci, .int .i64 ct, .bool co, .slice ka kl kc]) (T := 30) (List.mem_cons_of_mem _ (List.mem_cons_of_mem _ (List.mem_cons_of_mem _ (List.mem_cons_self ..))))
  go_region_held3 (fun w' => w'.cell? ⟨V, 2, none⟩ = some (.pointer (some ⟨R, 0, none⟩)) ∧ w'.cell? ⟨q, 0, none⟩ = some (.int .i64 cx) ∧ w'.cell? ⟨q, 1, none⟩ = some (.int .i64 ci) ∧ w'.cell? ⟨q, 2, none⟩ = some (.int .i64 ct) ∧ w'.cell? ⟨q, 3, none⟩ = some (.bool co) ∧ w'.cell? ⟨q, 4, none⟩ = some (.slice ka kl kc))
    (first | assumption | exact ⟨Blk.cell hv 2, Blk.cell hq 0, Blk.cell hq 1, Blk.cell hq 2, Blk.cell hq 3, Blk.cell hq 4⟩)
    (first
      | (go_at_call 41; refine (HL.out _ _ h1).mono ?_; rintro e w2 ⟨a1, c1, rfl, h1⟩; have hv := h1.blk (b := V) (C := #[.pointer (some ⟨B, 0, none⟩), x, .pointer (some ⟨R, 0, none⟩), y]) (T := 37) (List.mem_cons_of_mem _ (List.mem_cons_of_mem _ (List.mem_cons_of_mem _ (List.mem_cons_self ..)))); have hq := h1.blk (b := q) (C := #[.int .i64 cx, .int .i64 ci, .int .i64 ct, .bool co, .slice ka kl kc]) (T := 30) (List.mem_cons_of_mem _ (List.mem_cons_of_mem _ (List.mem_cons_of_mem _ (List.mem_cons_of_mem _ (List.mem_cons_self ..))))))
      | (go_at_call 52; refine (rbcrash_at (KA := KA) (h1.front 1 rfl) HOK.out.k HFEW.out HIZ.out.1.len hN HN4.out HKS.out).mono ?_; rintro e w2 ⟨rfl, h1⟩; have hv := h1.blk (b := V) (C := #[.pointer (some ⟨B, 0, none⟩), x, .pointer (some ⟨R, 0, none⟩), y]) (T := 37) (List.mem_cons_of_mem _ (List.mem_cons_of_mem _ (List.mem_cons_of_mem _ (List.mem_cons_self ..)))); have hq := h1.blk (b := q) (C := #[.int .i64 cx, .int .i64 ci, .int .i64 ct, .bool co, .slice ka kl kc]) (T := 30) (List.mem_cons_of_mem _ (List.mem_cons_of_mem _ (List.mem_cons_of_mem _ (List.mem_cons_of_mem _ (List.mem_cons_self ..)))))))
  have h3 : Sp w0 (rbay R rs n (b.crash KS) :: bay B ps n (b.crash KS) :: blk V #[.pointer (some ⟨B, 0, none⟩), x, .pointer (some ⟨R, 0, none⟩), y] 37 :: blk q #[.int .i64 cx, .int .i64 ci, .int .i64 ct, .bool co, .slice ka kl kc] 30 :: L) _ := drop1 h1
  have h4 : Sp w0 (blk V #[.pointer (some ⟨B, 0, none⟩), x, .pointer (some ⟨R, 0, none⟩), y] 37 :: rbay R rs n (b.crash KS) :: bay B ps n (b.crash KS) :: blk q #[.int .i64 cx, .int .i64 ci, .int .i64 ct, .bool co, .slice ka kl kc] 30 :: L) _ := h3.front 2 rfl
  have h5 : Sp w0 (rbay R rs n (b.crash KS) :: blk V #[.pointer (some ⟨B, 0, none⟩), x, .pointer (some ⟨R, 0, none⟩), y] 37 :: bay B ps n (b.crash KS) :: blk q #[.int .i64 cx, .int .i64 ci, .int .i64 ct, .bool co, .slice ka kl kc] 30 :: L) _ := h4.front 1 rfl
  have h6 : Sp w0 (blk V #[.pointer (some ⟨B, 0, none⟩), x, .pointer (some ⟨R, 0, none⟩), y] 37 :: bay B ps n (b.crash KS) :: rbay R rs n (b.crash KS) :: blk q #[.int .i64 cx, .int .i64 ci, .int .i64 ct, .bool co, .slice ka kl kc] 30 :: L) _ := h5.back 2
  have HO := Lib.hid (open2_calls h6 (k + 1) (HIZ.out.1.crash KS) (by omega) (HIZ.out.2.crash KS) hN1 hN)
  clear h1 h3 h4 h5 h6 hv hq HL HKL HOK HFEW
  go_wp2_with fail
  refine HO.out.mono ?_
  rintro e w3 ⟨rfl, h7⟩
  have H7 := Lib.hid h7
  clear h7 HO
  go_wp2
  go_ret
  exact ⟨rfl, KS, opn2_drop H7.out⟩
set_option maxHeartbeats 16000000 in
set_option maxRecDepth 100000 in
theorem bact_end (h : Sp w0 (blk V #[.pointer (some ⟨B, 0, none⟩), x, .pointer (some ⟨R, 0, none⟩), y] 37 :: bay B ps n b :: rbay R rs n b :: L) w) (hM : b.M.length = N) (c : Bm) (hok : c.ok w0) (hk : Go.bits .and .i64 c.x 7 = 6) :
    Calls Tryz.prog 38 #[.pointer (some ⟨V, 0, none⟩), .agg (bC c)] w fun e w' => e = .returned (.bool true) ∧ ∃ b', (b' = b ∨ ∃ i, b' = b.on i (b.at i).fail) ∧ Sp w0 (blk V #[.pointer (some ⟨B, 0, none⟩), x, .pointer (some ⟨R, 0, none⟩), y] 37 :: bay B ps n b' :: rbay R rs n b' :: L) w' := by
  have hsp := fun q (hq : w.heap.size = q) => bx_in (C := bC c) (T := 30) h q hq
  have HM := Lib.hid hM
  clear hM
  have HOK := Lib.hid hok
  obtain ⟨cx, ci, ct, co, ka, kc, KA⟩ := c
  unfold bC at hsp ⊢
  dsimp only at hsp hk ⊢
  obtain ⟨kl, hkl⟩ : ∃ kl, kl = KA.length := ⟨_, rfl⟩
  rw [← hkl] at hsp ⊢
  have HKL := Lib.hid hkl
  obtain ⟨q, hqq⟩ : ∃ q, w.heap.size = q := ⟨_, rfl⟩
  have H1 := Lib.hid (hsp q hqq)
  have HQQ := Lib.hid hqq
  clear h hsp hqq hok hkl
  cases co with
  | false =>
    go_enter Tryz.func38, Tryz.ntmps38
    go_upto_region 13 with fail
    have hqq := HQQ.out
    rw [hqq]
    have h1 := H1.out
    generalize w.alloc (.cells #[.int .i64 cx, .int .i64 ci, .int .i64 ct, .bool false, .slice ka kl kc] 30) = W at h1 ⊢
    clear hqq H1 HQQ
    have hv := h1.blk (b := V) (C := #[.pointer (some ⟨B, 0, none⟩), x, .pointer (some ⟨R, 0, none⟩), y]) (T := 37) (List.mem_cons_of_mem _ (List.mem_cons_of_mem _ (List.mem_cons_self ..)))
    have hq := h1.blk (b := q) (C := #[.int .i64 cx, .int .i64 ci, .int .i64 ct, .bool false, .slice ka kl kc]) (T := 30) (List.mem_cons_of_mem _ (List.mem_cons_of_mem _ (List.mem_cons_of_mem _ (List.mem_cons_self ..))))
    have q3 := hq.cell 3
    have q1 := hq.cell 1
    have v0 := hv.cell 0
    have H1 := Lib.hid h1
    clear h1 hv hq
    go_quiet (fail)
    have H4 := Lib.hid (bx_out (H1.out.drewN nq))
    clear H1 q3 q1 v0
    go_wp2
    go_ret
    exact ⟨rfl, b, .inl rfl, H4.out⟩
  | true =>
    by_cases hin : 0 ≤ ci ∧ ci < N
    · obtain ⟨j, rfl⟩ : ∃ j : Nat, ci = j := ⟨ci.toNat, by omega⟩
      have hj : j < N := by omega
      go_enter Tryz.func38, Tryz.ntmps38
      go_upto_region 13 with fail
      have hqq := HQQ.out
      rw [hqq]
      have h1 := H1.out
      generalize w.alloc (.cells #[.int .i64 cx, .int .i64 (j : Nat), .int .i64 ct, .bool true, .slice ka kl kc] 30) = W at h1 ⊢
      clear hqq H1 HQQ
      obtain ⟨p, X0, hp, _, _⟩ := bay_at (show Sp w0 (blk V #[.pointer (some ⟨B, 0, none⟩), x, .pointer (some ⟨R, 0, none⟩), y] 37 :: bay B ps n b :: rbay R rs n b :: blk q #[.int .i64 cx, .int .i64 (j : Nat), .int .i64 ct, .bool true, .slice ka kl kc] 30 :: L) W from h1.front 2 rfl) HM.out hj
      have HMB := Lib.hid (fun kq => bmember_yes (h1.drewN kq) j p hp)
      have hv := h1.blk (b := V) (C := #[.pointer (some ⟨B, 0, none⟩), x, .pointer (some ⟨R, 0, none⟩), y]) (T := 37) (List.mem_cons_of_mem _ (List.mem_cons_of_mem _ (List.mem_cons_self ..)))
      have hq := h1.blk (b := q) (C := #[.int .i64 cx, .int .i64 (j : Nat), .int .i64 ct, .bool true, .slice ka kl kc]) (T := 30) (List.mem_cons_of_mem _ (List.mem_cons_of_mem _ (List.mem_cons_of_mem _ (List.mem_cons_self ..))))
      have q3 := hq.cell 3
      have q1 := hq.cell 1
      have v0 := hv.cell 0
      have H1 := Lib.hid h1
      have HP := Lib.hid hp
      clear h1 hv hq hp
      go_quiet ((go_at_call 16; exact Calls.quiet_of_same ((HMB.out _).mono fun _ _ h => ⟨h.1, h.2.symm⟩)))
      have h2 := H1.out.drewN nq
      clear HMB H1 q3 q1 v0
      go_upto_region 14 with fail
      generalize W.drewN nq = W2 at h2 ⊢
      have h2 := h2.drew
      have hv := h2.blk (b := V) (C := #[.pointer (some ⟨B, 0, none⟩), x, .pointer (some ⟨R, 0, none⟩), y]) (T := 37) (List.mem_cons_of_mem _ (List.mem_cons_of_mem _ (List.mem_cons_self ..)))
      have hq := h2.blk (b := q) (C := #[.int .i64 cx, .int .i64 (j : Nat), .int .i64 ct, .bool true, .slice ka kl kc]) (T := 30) (List.mem_cons_of_mem _ (List.mem_cons_of_mem _ (List.mem_cons_of_mem _ (List.mem_cons_self ..))))
      have v0 := hv.cell 0
      have q1 := hq.cell 1
      have HMB := Lib.hid (bmember_yes h2 j p HP.out)
      have h3 : Sp w0 (blk V #[.pointer (some ⟨B, 0, none⟩), x, .pointer (some ⟨R, 0, none⟩), y] 37 :: bay B ps n b :: rbay R rs n b :: blk q #[.int .i64 cx, .int .i64 (j : Nat), .int .i64 ct, .bool true, .slice ka kl kc] 30 :: L) W2.drew := h2.front 2 rfl
      obtain ⟨p', X1, hp', hz, hback⟩ := bay_at h3 HM.out hj
      obtain rfl : p' = p := Option.some.inj (hp'.symm.trans HP.out)
      have HZ := Lib.hid (And.intro (zfail hz) hback)
      clear h2 h3 hv hq hz hback hp'
      go_still_tail 6, (by kernel_rfl)
      change wpList _ _ _ _ _ W2.drew
      go_wp2_with fail
      refine HMB.out.mono ?_
      rintro e w3 ⟨rfl, rfl⟩
      go_wp2_with fail
      refine HZ.out.1.mono ?_
      rintro e w3 ⟨rfl, h4⟩
      have h5 := HZ.out.2 _ _ h4
      have h6 : Sp w0 (blk V #[.pointer (some ⟨B, 0, none⟩), x, .pointer (some ⟨R, 0, none⟩), y] 37 :: rbay R rs n b :: bay B ps n (b.on j (b.at j).fail) :: blk q #[.int .i64 cx, .int .i64 (j : Nat), .int .i64 ct, .bool true, .slice ka kl kc] 30 :: L) w3 := by
        have g1 : Sp w0 (rbay R rs n b :: blk V #[.pointer (some ⟨B, 0, none⟩), x, .pointer (some ⟨R, 0, none⟩), y] 37 :: bay B ps n (b.on j (b.at j).fail) :: blk q #[.int .i64 cx, .int .i64 (j : Nat), .int .i64 ct, .bool true, .slice ka kl kc] 30 :: L) w3 := h5.front 2 rfl
        exact g1.front 1 rfl
      have h6 := h6.drew
      clear HZ HMB h4 h5 v0 q1
      go_upto_region 15 with fail
      obtain ⟨r, g, cc, X2, hrl, e0, e1, e2, hz, hback⟩ := rbay_at h6 HM.out hj
      have hv := h6.blk (b := V) (C := #[.pointer (some ⟨B, 0, none⟩), x, .pointer (some ⟨R, 0, none⟩), y]) (T := 37) (List.mem_cons_self ..)
      have hq := h6.blk (b := q) (C := #[.int .i64 cx, .int .i64 (j : Nat), .int .i64 ct, .bool true, .slice ka kl kc]) (T := 30) (List.mem_cons_of_mem _ (List.mem_cons_of_mem _ (List.mem_cons_of_mem _ (List.mem_cons_self ..))))
      have v2 := hv.cell 2
      have q1 := hq.cell 1
      have jl : (j : Int) < (N : Int) := by omega
      have j0 : (0 : Int) ≤ (j : Int) := by omega
      have HZ := Lib.hid (And.intro (rzfail hz) hback)
      clear h6 hv hq hz hback
      go_still_tail 11, (by kernel_rfl)
      change wpList _ _ _ _ _ w3.drew
      go_wp2_with fail
      refine HZ.out.1.mono ?_
      rintro e w4 ⟨rfl, h7⟩
      have h8 := HZ.out.2 _ _ h7
      have h9 : Sp w0 (blk V #[.pointer (some ⟨B, 0, none⟩), x, .pointer (some ⟨R, 0, none⟩), y] 37 :: bay B ps n (b.on j (b.at j).fail) :: rbay R rs n (b.on j (b.at j).fail) :: L) w4 := by
        have g1 : Sp w0 (bay B ps n (b.on j (b.at j).fail) :: blk V #[.pointer (some ⟨B, 0, none⟩), x, .pointer (some ⟨R, 0, none⟩), y] 37 :: rbay R rs n (b.on j (b.at j).fail) :: blk q #[.int .i64 cx, .int .i64 (j : Nat), .int .i64 ct, .bool true, .slice ka kl kc] 30 :: L) w4 := h8.front 2 rfl
        exact drop3' (g1.front 1 rfl)
      have H9 := Lib.hid h9
      clear HZ h7 h8 h9 v2 q1 e0 e1 e2
      go_wp2
      go_ret
      exact ⟨rfl, _, .inr ⟨j, rfl⟩, H9.out⟩
    · have hno : ¬ (0 ≤ ci ∧ ci < (b.M.length : Nat)) := by rw [HM.out]; exact hin
      go_enter Tryz.func38, Tryz.ntmps38
      go_upto_region 13 with fail
      have hqq := HQQ.out
      rw [hqq]
      have h1 := H1.out
      generalize w.alloc (.cells #[.int .i64 cx, .int .i64 ci, .int .i64 ct, .bool true, .slice ka kl kc] 30) = W at h1 ⊢
      clear hqq H1 HQQ
      have HMB := Lib.hid (fun kq => bmember_no (h1.drewN kq) ci hno)
      have hv := h1.blk (b := V) (C := #[.pointer (some ⟨B, 0, none⟩), x, .pointer (some ⟨R, 0, none⟩), y]) (T := 37) (List.mem_cons_of_mem _ (List.mem_cons_of_mem _ (List.mem_cons_self ..)))
      have hq := h1.blk (b := q) (C := #[.int .i64 cx, .int .i64 ci, .int .i64 ct, .bool true, .slice ka kl kc]) (T := 30) (List.mem_cons_of_mem _ (List.mem_cons_of_mem _ (List.mem_cons_of_mem _ (List.mem_cons_self ..))))
      have q3 := hq.cell 3
      have q1 := hq.cell 1
      have v0 := hv.cell 0
      have H1 := Lib.hid h1
      clear h1 hv hq hno hin
      go_quiet ((go_at_call 16; exact Calls.quiet_of_same ((HMB.out _).mono fun _ _ h => ⟨h.1, h.2.symm⟩)))
      have H4 := Lib.hid (bx_out (H1.out.drewN nq))
      clear H1 q3 q1 v0 HMB
      go_wp2
      go_ret
      exact ⟨rfl, b, .inl rfl, H4.out⟩
set_option maxHeartbeats 16000000 in
set_option maxRecDepth 100000 in
theorem bact_none (h : Sp w0 (blk V #[.pointer (some ⟨B, 0, none⟩), .pointer none, .pointer (some ⟨R, 0, none⟩), .pointer none] 37 :: bay B ps n b :: rbay R rs n b :: L) w)  (c : Bm) (hok : c.ok w0) (hk : Go.bits .and .i64 c.x 7 ≠ 3 ∧ Go.bits .and .i64 c.x 7 ≠ 4 ∧ Go.bits .and .i64 c.x 7 ≠ 5 ∧ Go.bits .and .i64 c.x 7 ≠ 6) :
    Calls Tryz.prog 38 #[.pointer (some ⟨V, 0, none⟩), .agg (bC c)] w fun e w' => e = .returned (.bool true) ∧ Sp w0 (blk V #[.pointer (some ⟨B, 0, none⟩), .pointer none, .pointer (some ⟨R, 0, none⟩), .pointer none] 37 :: bay B ps n b :: rbay R rs n b :: L) w' := by
  have hsp := fun q (hq : w.heap.size = q) => bx_in (C := bC c) (T := 30) h q hq
  have HOK := Lib.hid hok
  obtain ⟨cx, ci, ct, co, ka, kc, KA⟩ := c
  unfold bC at hsp ⊢
  dsimp only at hsp hk ⊢
  obtain ⟨kl, hkl⟩ : ∃ kl, kl = KA.length := ⟨_, rfl⟩
  rw [← hkl] at hsp ⊢
  have HKL := Lib.hid hkl
  obtain ⟨q, hqq⟩ : ∃ q, w.heap.size = q := ⟨_, rfl⟩
  have H1 := Lib.hid (hsp q hqq)
  have HQQ := Lib.hid hqq
  clear h hsp hqq hok hkl
  obtain ⟨n3, n4, n5, n6⟩ := hk
  obtain ⟨kk, hkk⟩ : ∃ kk, kk = Go.bits .and .i64 cx 7 := ⟨_, rfl⟩
  rw [← hkk] at n3 n4 n5 n6
  have hmod := hkk.symm
  have z3 : (kk == 3) = false := beq_eq_false_iff_ne.2 n3
  have z4 : (kk == 4) = false := beq_eq_false_iff_ne.2 n4
  have z5 : (kk == 5) = false := beq_eq_false_iff_ne.2 n5
  have z6 : (kk == 6) = false := beq_eq_false_iff_ne.2 n6
  clear n3 n4 n5 n6 hkk
  go_enter Tryz.func38, Tryz.ntmps38
  go_upto_region 17 with fail
  have hqq := HQQ.out
  rw [hqq]
  have h1 := H1.out
  generalize w.alloc (.cells #[.int .i64 cx, .int .i64 ci, .int .i64 ct, .bool co, .slice ka kl kc] 30) = W at h1 ⊢
  clear hqq H1 HQQ
  have hv := h1.blk (b := V) (C := #[.pointer (some ⟨B, 0, none⟩), .pointer none, .pointer (some ⟨R, 0, none⟩), .pointer none]) (T := 37) (List.mem_cons_of_mem _ (List.mem_cons_of_mem _ (List.mem_cons_self ..)))
  have hq := h1.blk (b := q) (C := #[.int .i64 cx, .int .i64 ci, .int .i64 ct, .bool co, .slice ka kl kc]) (T := 30) (List.mem_cons_of_mem _ (List.mem_cons_of_mem _ (List.mem_cons_of_mem _ (List.mem_cons_self ..))))
  have v3 := hv.cell 3
  go_upto_region 18 with fail
  have v1 := hv.cell 1
  have q1 := hq.cell 1
  have q2 := hq.cell 2
  have H1 := Lib.hid h1
  clear h1 hv hq v3 z3 z4 z5 z6 hmod
  go_quiet ((first
    | (go_at_call 18; exact Calls.quiet_of_same ((fail_nil _ _).mono fun _ _ h => ⟨h.1, h.2.symm⟩))
    | (go_at_call 19; exact Calls.quiet_of_same ((replace_nil _ _).mono fun _ _ h => ⟨h.1, h.2.symm⟩))
    | (go_at_call 20; exact Calls.quiet_of_same ((advance_nil _ _ _).mono fun _ _ h => ⟨h.1, h.2.symm⟩))))
  have H4 := Lib.hid (bx_out (H1.out.drewN nq))
  clear H1 v1 q1 q2
  go_wp2
  go_ret
  exact ⟨rfl, H4.out⟩
set_option maxHeartbeats 16000000 in
set_option maxRecDepth 100000 in
theorem bact_fail (h : Sp w0 (blk V #[.pointer (some ⟨B, 0, none⟩), .pointer (some ⟨X, 0, none⟩), .pointer (some ⟨R, 0, none⟩), .pointer (some ⟨Y, 0, none⟩)] 37 :: bay B ps n b :: rbay R rs n b :: board X B l :: rboard Y R l :: L) w) (k : Nat) (hi : Bi b N k) (hk9 : k ≤ 900000) (hl : Lok l N) (hn1 : 1 ≤ n) (hn : n ≤ 256) (c : Bm) (hok : c.ok w0) (hk : Go.bits .and .i64 c.x 7 = 0) :
    Calls Tryz.prog 38 #[.pointer (some ⟨V, 0, none⟩), .agg (bC c)] w fun e w' => e = .returned (.bool true) ∧ Sp w0 (vb V B X R Y :: bay B ps n ((Bd.mk b l).fail c.i).b :: rbay R rs n ((Bd.mk b l).fail c.i).b :: board X B ((Bd.mk b l).fail c.i).l :: rboard Y R ((Bd.mk b l).fail c.i).l :: L) w' := by
  have hsp := fun q (hq : w.heap.size = q) => bx_in (C := bC c) (T := 30) h q hq
  have HIL := Lib.hid (And.intro hi hl)
  clear hi hl
  have HOK := Lib.hid hok
  obtain ⟨cx, ci, ct, co, ka, kc, KA⟩ := c
  unfold bC at hsp ⊢
  dsimp only at hsp hk ⊢
  obtain ⟨kl, hkl⟩ : ∃ kl, kl = KA.length := ⟨_, rfl⟩
  rw [← hkl] at hsp ⊢
  have HKL := Lib.hid hkl
  obtain ⟨q, hqq⟩ : ∃ q, w.heap.size = q := ⟨_, rfl⟩
  have H1 := Lib.hid (hsp q hqq)
  have HQQ := Lib.hid hqq
  clear h hsp hqq hok hkl
  have hmod : Go.bits .and .i64 cx 7 = 0 := hk
  go_enter Tryz.func38, Tryz.ntmps38
  go_upto_region 17 with fail
  have hqq := HQQ.out
  rw [hqq]
  have h1 := H1.out
  generalize w.alloc (.cells #[.int .i64 cx, .int .i64 ci, .int .i64 ct, .bool co, .slice ka kl kc] 30) = W at h1 ⊢
  clear hqq H1 HQQ
  have hv := h1.blk (b := V) (C := #[.pointer (some ⟨B, 0, none⟩), .pointer (some ⟨X, 0, none⟩), .pointer (some ⟨R, 0, none⟩), .pointer (some ⟨Y, 0, none⟩)]) (T := 37) (List.mem_cons_of_mem _ (List.mem_cons_of_mem _ (List.mem_cons_self ..)))
  have hq := h1.blk (b := q) (C := #[.int .i64 cx, .int .i64 ci, .int .i64 ct, .bool co, .slice ka kl kc]) (T := 30) (List.mem_cons_of_mem _ (List.mem_cons_of_mem _ (List.mem_cons_of_mem _ (List.mem_cons_self ..))))
  have v3 := hv.cell 3
  have q0 := hq.cell 0
  go_upto_region 21 with fail
  have h2 : Sp w0 (board X B l :: bay B ps n b :: rbay R rs n b :: blk V #[.pointer (some ⟨B, 0, none⟩), .pointer (some ⟨X, 0, none⟩), .pointer (some ⟨R, 0, none⟩), .pointer (some ⟨Y, 0, none⟩)] 37 :: blk q #[.int .i64 cx, .int .i64 ci, .int .i64 ct, .bool co, .slice ka kl kc] 30 :: rboard Y R l :: L) W := h1.front 4 rfl
  have h3 : Sp w0 (rboard Y R l :: board X B l :: bay B ps n b :: rbay R rs n b :: blk V #[.pointer (some ⟨B, 0, none⟩), .pointer (some ⟨X, 0, none⟩), .pointer (some ⟨R, 0, none⟩), .pointer (some ⟨Y, 0, none⟩)] 37 :: blk q #[.int .i64 cx, .int .i64 ci, .int .i64 ct, .bool co, .slice ka kl kc] 30 :: L) W := h2.front 5 rfl
  have h4 : Sp w0 (board X B l :: bay B ps n b :: rboard Y R l :: rbay R rs n b :: blk V #[.pointer (some ⟨B, 0, none⟩), .pointer (some ⟨X, 0, none⟩), .pointer (some ⟨R, 0, none⟩), .pointer (some ⟨Y, 0, none⟩)] 37 :: blk q #[.int .i64 cx, .int .i64 ci, .int .i64 ct, .bool co, .slice ka kl kc] 30 :: L) W := h3.back 2
  have h1 := h4.drew
  clear h2 h3 h4 hv hq v3 q0 hmod HKL HOK
  have hv := h1.blk (b := V) (C := #[.pointer (some ⟨B, 0, none⟩), .pointer (some ⟨X, 0, none⟩), .pointer (some ⟨R, 0, none⟩), .pointer (some ⟨Y, 0, none⟩)]) (T := 37) (List.mem_cons_of_mem _ (List.mem_cons_of_mem _ (List.mem_cons_of_mem _ (List.mem_cons_of_mem _ (List.mem_cons_self ..)))))
  have hq := h1.blk (b := q) (C := #[.int .i64 cx, .int .i64 ci, .int .i64 ct, .bool co, .slice ka kl kc]) (T := 30) (List.mem_cons_of_mem _ (List.mem_cons_of_mem _ (List.mem_cons_of_mem _ (List.mem_cons_of_mem _ (List.mem_cons_of_mem _ (List.mem_cons_self ..))))))
  have zE : ((Bd.mk b l).failE ci == (Bd.mk b l).failE ci) = true := beq_self_eq_true _
  go_region_held3 (fun w' => w'.cell? ⟨V, 1, none⟩ = some (.pointer (some ⟨X, 0, none⟩)) ∧ w'.cell? ⟨V, 3, none⟩ = some (.pointer (some ⟨Y, 0, none⟩)) ∧ w'.cell? ⟨q, 1, none⟩ = some (.int .i64 ci) ∧ w'.cell? ⟨q, 2, none⟩ = some (.int .i64 ct))
    (first | assumption | exact ⟨Blk.cell hv 1, Blk.cell hv 3, Blk.cell hq 1, Blk.cell hq 2⟩)
    (first
      | (go_at_call 18; refine (bfail_calls h1 k HIL.out.1 hk9 HIL.out.2 ci).mono ?_; rintro e w2 ⟨rfl, h1⟩; have hv := h1.blk (b := V) (C := #[.pointer (some ⟨B, 0, none⟩), .pointer (some ⟨X, 0, none⟩), .pointer (some ⟨R, 0, none⟩), .pointer (some ⟨Y, 0, none⟩)]) (T := 37) (List.mem_cons_of_mem _ (List.mem_cons_of_mem _ (List.mem_cons_of_mem _ (List.mem_cons_of_mem _ (List.mem_cons_self ..))))); have hq := h1.blk (b := q) (C := #[.int .i64 cx, .int .i64 ci, .int .i64 ct, .bool co, .slice ka kl kc]) (T := 30) (List.mem_cons_of_mem _ (List.mem_cons_of_mem _ (List.mem_cons_of_mem _ (List.mem_cons_of_mem _ (List.mem_cons_of_mem _ (List.mem_cons_self ..)))))))
      | (go_at_call 90; refine (rfail_calls (turn4 h1) k HIL.out.1 hk9 HIL.out.2 ci).mono ?_; rintro e w2 ⟨rfl, h1⟩; have h1 := turn4 h1; have hv := h1.blk (b := V) (C := #[.pointer (some ⟨B, 0, none⟩), .pointer (some ⟨X, 0, none⟩), .pointer (some ⟨R, 0, none⟩), .pointer (some ⟨Y, 0, none⟩)]) (T := 37) (List.mem_cons_of_mem _ (List.mem_cons_of_mem _ (List.mem_cons_of_mem _ (List.mem_cons_of_mem _ (List.mem_cons_self ..))))); have hq := h1.blk (b := q) (C := #[.int .i64 cx, .int .i64 ci, .int .i64 ct, .bool co, .slice ka kl kc]) (T := 30) (List.mem_cons_of_mem _ (List.mem_cons_of_mem _ (List.mem_cons_of_mem _ (List.mem_cons_of_mem _ (List.mem_cons_of_mem _ (List.mem_cons_self ..))))))))
  all_goals (
    have h5 : Sp w0 (board X B ((Bd.mk b l).fail ci).l :: bay B ps n ((Bd.mk b l).fail ci).b :: rboard Y R ((Bd.mk b l).fail ci).l :: rbay R rs n ((Bd.mk b l).fail ci).b :: vb V B X R Y :: blk q #[.int .i64 cx, .int .i64 ci, .int .i64 ct, .bool co, .slice ka kl kc] 30 :: L) _ := h1
    have H6 := Lib.hid (act_back h5)
    clear h1 h5 hv hq
    go_wp2
    go_ret)
  all_goals exact ⟨rfl, H6.out⟩
set_option maxHeartbeats 16000000 in
set_option maxRecDepth 100000 in
theorem bact_replace (h : Sp w0 (blk V #[.pointer (some ⟨B, 0, none⟩), .pointer (some ⟨X, 0, none⟩), .pointer (some ⟨R, 0, none⟩), .pointer (some ⟨Y, 0, none⟩)] 37 :: bay B ps n b :: rbay R rs n b :: board X B l :: rboard Y R l :: L) w) (k : Nat) (hi : Bi b N k) (hk9 : k ≤ 900000) (hl : Lok l N) (hn1 : 1 ≤ n) (hn : n ≤ 256) (c : Bm) (hok : c.ok w0) (hk : Go.bits .and .i64 c.x 7 = 1) :
    Calls Tryz.prog 38 #[.pointer (some ⟨V, 0, none⟩), .agg (bC c)] w fun e w' => e = .returned (.bool true) ∧ Sp w0 (vb V B X R Y :: bay B ps n ((Bd.mk b l).replace c.i).b :: rbay R rs n ((Bd.mk b l).replace c.i).b :: board X B ((Bd.mk b l).replace c.i).l :: rboard Y R ((Bd.mk b l).replace c.i).l :: L) w' := by
  have hsp := fun q (hq : w.heap.size = q) => bx_in (C := bC c) (T := 30) h q hq
  have HIL := Lib.hid (And.intro hi hl)
  clear hi hl
  have HOK := Lib.hid hok
  obtain ⟨cx, ci, ct, co, ka, kc, KA⟩ := c
  unfold bC at hsp ⊢
  dsimp only at hsp hk ⊢
  obtain ⟨kl, hkl⟩ : ∃ kl, kl = KA.length := ⟨_, rfl⟩
  rw [← hkl] at hsp ⊢
  have HKL := Lib.hid hkl
  obtain ⟨q, hqq⟩ : ∃ q, w.heap.size = q := ⟨_, rfl⟩
  have H1 := Lib.hid (hsp q hqq)
  have HQQ := Lib.hid hqq
  clear h hsp hqq hok hkl
  have hmod : Go.bits .and .i64 cx 7 = 1 := hk
  go_enter Tryz.func38, Tryz.ntmps38
  go_upto_region 17 with fail
  have hqq := HQQ.out
  rw [hqq]
  have h1 := H1.out
  generalize w.alloc (.cells #[.int .i64 cx, .int .i64 ci, .int .i64 ct, .bool co, .slice ka kl kc] 30) = W at h1 ⊢
  clear hqq H1 HQQ
  have hv := h1.blk (b := V) (C := #[.pointer (some ⟨B, 0, none⟩), .pointer (some ⟨X, 0, none⟩), .pointer (some ⟨R, 0, none⟩), .pointer (some ⟨Y, 0, none⟩)]) (T := 37) (List.mem_cons_of_mem _ (List.mem_cons_of_mem _ (List.mem_cons_self ..)))
  have hq := h1.blk (b := q) (C := #[.int .i64 cx, .int .i64 ci, .int .i64 ct, .bool co, .slice ka kl kc]) (T := 30) (List.mem_cons_of_mem _ (List.mem_cons_of_mem _ (List.mem_cons_of_mem _ (List.mem_cons_self ..))))
  have v3 := hv.cell 3
  have q0 := hq.cell 0
  go_upto_region 23 with fail
  have h2 : Sp w0 (board X B l :: bay B ps n b :: rbay R rs n b :: blk V #[.pointer (some ⟨B, 0, none⟩), .pointer (some ⟨X, 0, none⟩), .pointer (some ⟨R, 0, none⟩), .pointer (some ⟨Y, 0, none⟩)] 37 :: blk q #[.int .i64 cx, .int .i64 ci, .int .i64 ct, .bool co, .slice ka kl kc] 30 :: rboard Y R l :: L) W := h1.front 4 rfl
  have h3 : Sp w0 (rboard Y R l :: board X B l :: bay B ps n b :: rbay R rs n b :: blk V #[.pointer (some ⟨B, 0, none⟩), .pointer (some ⟨X, 0, none⟩), .pointer (some ⟨R, 0, none⟩), .pointer (some ⟨Y, 0, none⟩)] 37 :: blk q #[.int .i64 cx, .int .i64 ci, .int .i64 ct, .bool co, .slice ka kl kc] 30 :: L) W := h2.front 5 rfl
  have h4 : Sp w0 (board X B l :: bay B ps n b :: rboard Y R l :: rbay R rs n b :: blk V #[.pointer (some ⟨B, 0, none⟩), .pointer (some ⟨X, 0, none⟩), .pointer (some ⟨R, 0, none⟩), .pointer (some ⟨Y, 0, none⟩)] 37 :: blk q #[.int .i64 cx, .int .i64 ci, .int .i64 ct, .bool co, .slice ka kl kc] 30 :: L) W := h3.back 2
  have h1 := h4.drew
  clear h2 h3 h4 hv hq v3 q0 hmod HKL HOK
  have hv := h1.blk (b := V) (C := #[.pointer (some ⟨B, 0, none⟩), .pointer (some ⟨X, 0, none⟩), .pointer (some ⟨R, 0, none⟩), .pointer (some ⟨Y, 0, none⟩)]) (T := 37) (List.mem_cons_of_mem _ (List.mem_cons_of_mem _ (List.mem_cons_of_mem _ (List.mem_cons_of_mem _ (List.mem_cons_self ..)))))
  have hq := h1.blk (b := q) (C := #[.int .i64 cx, .int .i64 ci, .int .i64 ct, .bool co, .slice ka kl kc]) (T := 30) (List.mem_cons_of_mem _ (List.mem_cons_of_mem _ (List.mem_cons_of_mem _ (List.mem_cons_of_mem _ (List.mem_cons_of_mem _ (List.mem_cons_self ..))))))
  have zE : ((Bd.mk b l).replaceE ci == (Bd.mk b l).replaceE ci) = true := beq_self_eq_true _
  go_region_held3 (fun w' => w'.cell? ⟨V, 1, none⟩ = some (.pointer (some ⟨X, 0, none⟩)) ∧ w'.cell? ⟨V, 3, none⟩ = some (.pointer (some ⟨Y, 0, none⟩)) ∧ w'.cell? ⟨q, 1, none⟩ = some (.int .i64 ci) ∧ w'.cell? ⟨q, 2, none⟩ = some (.int .i64 ct))
    (first | assumption | exact ⟨Blk.cell hv 1, Blk.cell hv 3, Blk.cell hq 1, Blk.cell hq 2⟩)
    (first
      | (go_at_call 19; refine (breplace_calls h1 k HIL.out.1 hk9 HIL.out.2 ci hn1 hn).mono ?_; rintro e w2 ⟨rfl, h1⟩; have hv := h1.blk (b := V) (C := #[.pointer (some ⟨B, 0, none⟩), .pointer (some ⟨X, 0, none⟩), .pointer (some ⟨R, 0, none⟩), .pointer (some ⟨Y, 0, none⟩)]) (T := 37) (List.mem_cons_of_mem _ (List.mem_cons_of_mem _ (List.mem_cons_of_mem _ (List.mem_cons_of_mem _ (List.mem_cons_self ..))))); have hq := h1.blk (b := q) (C := #[.int .i64 cx, .int .i64 ci, .int .i64 ct, .bool co, .slice ka kl kc]) (T := 30) (List.mem_cons_of_mem _ (List.mem_cons_of_mem _ (List.mem_cons_of_mem _ (List.mem_cons_of_mem _ (List.mem_cons_of_mem _ (List.mem_cons_self ..)))))))
      | (go_at_call 91; refine (rreplace_calls (turn4 h1) k HIL.out.1 hk9 HIL.out.2 ci hn1 hn).mono ?_; rintro e w2 ⟨rfl, h1⟩; have h1 := turn4 h1; have hv := h1.blk (b := V) (C := #[.pointer (some ⟨B, 0, none⟩), .pointer (some ⟨X, 0, none⟩), .pointer (some ⟨R, 0, none⟩), .pointer (some ⟨Y, 0, none⟩)]) (T := 37) (List.mem_cons_of_mem _ (List.mem_cons_of_mem _ (List.mem_cons_of_mem _ (List.mem_cons_of_mem _ (List.mem_cons_self ..))))); have hq := h1.blk (b := q) (C := #[.int .i64 cx, .int .i64 ci, .int .i64 ct, .bool co, .slice ka kl kc]) (T := 30) (List.mem_cons_of_mem _ (List.mem_cons_of_mem _ (List.mem_cons_of_mem _ (List.mem_cons_of_mem _ (List.mem_cons_of_mem _ (List.mem_cons_self ..))))))))
  all_goals (
    have h5 : Sp w0 (board X B ((Bd.mk b l).replace ci).l :: bay B ps n ((Bd.mk b l).replace ci).b :: rboard Y R ((Bd.mk b l).replace ci).l :: rbay R rs n ((Bd.mk b l).replace ci).b :: vb V B X R Y :: blk q #[.int .i64 cx, .int .i64 ci, .int .i64 ct, .bool co, .slice ka kl kc] 30 :: L) _ := h1
    have H6 := Lib.hid (act_back h5)
    clear h1 h5 hv hq
    go_wp2
    go_ret)
  all_goals exact ⟨rfl, H6.out⟩
set_option maxHeartbeats 16000000 in
set_option maxRecDepth 100000 in
theorem bact_advance (h : Sp w0 (blk V #[.pointer (some ⟨B, 0, none⟩), .pointer (some ⟨X, 0, none⟩), .pointer (some ⟨R, 0, none⟩), .pointer (some ⟨Y, 0, none⟩)] 37 :: bay B ps n b :: rbay R rs n b :: board X B l :: rboard Y R l :: L) w) (k : Nat) (hi : Bi b N k) (hk9 : k ≤ 900000) (hl : Lok l N) (hn1 : 1 ≤ n) (hn : n ≤ 256) (c : Bm) (hok : c.ok w0) (hk : Go.bits .and .i64 c.x 7 ≠ 0 ∧ Go.bits .and .i64 c.x 7 ≠ 1 ∧ Go.bits .and .i64 c.x 7 ≠ 3 ∧ Go.bits .and .i64 c.x 7 ≠ 4 ∧ Go.bits .and .i64 c.x 7 ≠ 5 ∧ Go.bits .and .i64 c.x 7 ≠ 6) :
    Calls Tryz.prog 38 #[.pointer (some ⟨V, 0, none⟩), .agg (bC c)] w fun e w' => e = .returned (.bool true) ∧ Sp w0 (vb V B X R Y :: bay B ps n ((Bd.mk b l).advance c.i c.t).b :: rbay R rs n ((Bd.mk b l).advance c.i c.t).b :: board X B ((Bd.mk b l).advance c.i c.t).l :: rboard Y R ((Bd.mk b l).advance c.i c.t).l :: L) w' := by
  have hsp := fun q (hq : w.heap.size = q) => bx_in (C := bC c) (T := 30) h q hq
  have HIL := Lib.hid (And.intro hi hl)
  clear hi hl
  have HOK := Lib.hid hok
  obtain ⟨cx, ci, ct, co, ka, kc, KA⟩ := c
  unfold bC at hsp ⊢
  dsimp only at hsp hk ⊢
  obtain ⟨kl, hkl⟩ : ∃ kl, kl = KA.length := ⟨_, rfl⟩
  rw [← hkl] at hsp ⊢
  have HKL := Lib.hid hkl
  obtain ⟨q, hqq⟩ : ∃ q, w.heap.size = q := ⟨_, rfl⟩
  have H1 := Lib.hid (hsp q hqq)
  have HQQ := Lib.hid hqq
  clear h hsp hqq hok hkl
  obtain ⟨n0, n1, n3, n4, n5, n6⟩ := hk
  obtain ⟨kk, hkk⟩ : ∃ kk, kk = Go.bits .and .i64 cx 7 := ⟨_, rfl⟩
  rw [← hkk] at n0 n1 n3 n4 n5 n6
  have hmod := hkk.symm
  have z0 : (kk == 0) = false := beq_eq_false_iff_ne.2 n0
  have z1 : (kk == 1) = false := beq_eq_false_iff_ne.2 n1
  have z3 : (kk == 3) = false := beq_eq_false_iff_ne.2 n3
  have z4 : (kk == 4) = false := beq_eq_false_iff_ne.2 n4
  have z5 : (kk == 5) = false := beq_eq_false_iff_ne.2 n5
  have z6 : (kk == 6) = false := beq_eq_false_iff_ne.2 n6
  clear n0 n1 n3 n4 n5 n6 hkk
  go_enter Tryz.func38, Tryz.ntmps38
  go_upto_region 17 with fail
  have hqq := HQQ.out
  rw [hqq]
  have h1 := H1.out
  generalize w.alloc (.cells #[.int .i64 cx, .int .i64 ci, .int .i64 ct, .bool co, .slice ka kl kc] 30) = W at h1 ⊢
  clear hqq H1 HQQ
  have hv := h1.blk (b := V) (C := #[.pointer (some ⟨B, 0, none⟩), .pointer (some ⟨X, 0, none⟩), .pointer (some ⟨R, 0, none⟩), .pointer (some ⟨Y, 0, none⟩)]) (T := 37) (List.mem_cons_of_mem _ (List.mem_cons_of_mem _ (List.mem_cons_self ..)))
  have hq := h1.blk (b := q) (C := #[.int .i64 cx, .int .i64 ci, .int .i64 ct, .bool co, .slice ka kl kc]) (T := 30) (List.mem_cons_of_mem _ (List.mem_cons_of_mem _ (List.mem_cons_of_mem _ (List.mem_cons_self ..))))
  have v3 := hv.cell 3
  have q0 := hq.cell 0
  go_upto_region 24 with fail
  have h2 : Sp w0 (board X B l :: bay B ps n b :: rbay R rs n b :: blk V #[.pointer (some ⟨B, 0, none⟩), .pointer (some ⟨X, 0, none⟩), .pointer (some ⟨R, 0, none⟩), .pointer (some ⟨Y, 0, none⟩)] 37 :: blk q #[.int .i64 cx, .int .i64 ci, .int .i64 ct, .bool co, .slice ka kl kc] 30 :: rboard Y R l :: L) W := h1.front 4 rfl
  have h3 : Sp w0 (rboard Y R l :: board X B l :: bay B ps n b :: rbay R rs n b :: blk V #[.pointer (some ⟨B, 0, none⟩), .pointer (some ⟨X, 0, none⟩), .pointer (some ⟨R, 0, none⟩), .pointer (some ⟨Y, 0, none⟩)] 37 :: blk q #[.int .i64 cx, .int .i64 ci, .int .i64 ct, .bool co, .slice ka kl kc] 30 :: L) W := h2.front 5 rfl
  have h4 : Sp w0 (board X B l :: bay B ps n b :: rboard Y R l :: rbay R rs n b :: blk V #[.pointer (some ⟨B, 0, none⟩), .pointer (some ⟨X, 0, none⟩), .pointer (some ⟨R, 0, none⟩), .pointer (some ⟨Y, 0, none⟩)] 37 :: blk q #[.int .i64 cx, .int .i64 ci, .int .i64 ct, .bool co, .slice ka kl kc] 30 :: L) W := h3.back 2
  have h1 := h4.drew
  clear h2 h3 h4 hv hq v3 q0 hmod HKL HOK
  have hv := h1.blk (b := V) (C := #[.pointer (some ⟨B, 0, none⟩), .pointer (some ⟨X, 0, none⟩), .pointer (some ⟨R, 0, none⟩), .pointer (some ⟨Y, 0, none⟩)]) (T := 37) (List.mem_cons_of_mem _ (List.mem_cons_of_mem _ (List.mem_cons_of_mem _ (List.mem_cons_of_mem _ (List.mem_cons_self ..)))))
  have hq := h1.blk (b := q) (C := #[.int .i64 cx, .int .i64 ci, .int .i64 ct, .bool co, .slice ka kl kc]) (T := 30) (List.mem_cons_of_mem _ (List.mem_cons_of_mem _ (List.mem_cons_of_mem _ (List.mem_cons_of_mem _ (List.mem_cons_of_mem _ (List.mem_cons_self ..))))))
  have zE : ((Bd.mk b l).advanceE ci ct == (Bd.mk b l).advanceE ci ct) = true := beq_self_eq_true _
  go_region_held3 (fun w' => w'.cell? ⟨V, 1, none⟩ = some (.pointer (some ⟨X, 0, none⟩)) ∧ w'.cell? ⟨V, 3, none⟩ = some (.pointer (some ⟨Y, 0, none⟩)) ∧ w'.cell? ⟨q, 1, none⟩ = some (.int .i64 ci) ∧ w'.cell? ⟨q, 2, none⟩ = some (.int .i64 ct))
    (first | assumption | exact ⟨Blk.cell hv 1, Blk.cell hv 3, Blk.cell hq 1, Blk.cell hq 2⟩)
    (first
      | (go_at_call 20; refine (badvance_calls h1 k HIL.out.1 hk9 HIL.out.2 ci ct).mono ?_; rintro e w2 ⟨rfl, h1⟩; have hv := h1.blk (b := V) (C := #[.pointer (some ⟨B, 0, none⟩), .pointer (some ⟨X, 0, none⟩), .pointer (some ⟨R, 0, none⟩), .pointer (some ⟨Y, 0, none⟩)]) (T := 37) (List.mem_cons_of_mem _ (List.mem_cons_of_mem _ (List.mem_cons_of_mem _ (List.mem_cons_of_mem _ (List.mem_cons_self ..))))); have hq := h1.blk (b := q) (C := #[.int .i64 cx, .int .i64 ci, .int .i64 ct, .bool co, .slice ka kl kc]) (T := 30) (List.mem_cons_of_mem _ (List.mem_cons_of_mem _ (List.mem_cons_of_mem _ (List.mem_cons_of_mem _ (List.mem_cons_of_mem _ (List.mem_cons_self ..)))))))
      | (go_at_call 92; refine (radvance_calls (turn4 h1) k HIL.out.1 hk9 HIL.out.2 ci ct).mono ?_; rintro e w2 ⟨rfl, h1⟩; have h1 := turn4 h1; have hv := h1.blk (b := V) (C := #[.pointer (some ⟨B, 0, none⟩), .pointer (some ⟨X, 0, none⟩), .pointer (some ⟨R, 0, none⟩), .pointer (some ⟨Y, 0, none⟩)]) (T := 37) (List.mem_cons_of_mem _ (List.mem_cons_of_mem _ (List.mem_cons_of_mem _ (List.mem_cons_of_mem _ (List.mem_cons_self ..))))); have hq := h1.blk (b := q) (C := #[.int .i64 cx, .int .i64 ci, .int .i64 ct, .bool co, .slice ka kl kc]) (T := 30) (List.mem_cons_of_mem _ (List.mem_cons_of_mem _ (List.mem_cons_of_mem _ (List.mem_cons_of_mem _ (List.mem_cons_of_mem _ (List.mem_cons_self ..))))))))
  all_goals (
    have h5 : Sp w0 (board X B ((Bd.mk b l).advance ci ct).l :: bay B ps n ((Bd.mk b l).advance ci ct).b :: rboard Y R ((Bd.mk b l).advance ci ct).l :: rbay R rs n ((Bd.mk b l).advance ci ct).b :: vb V B X R Y :: blk q #[.int .i64 cx, .int .i64 ci, .int .i64 ct, .bool co, .slice ka kl kc] 30 :: L) _ := h1
    have H6 := Lib.hid (act_back h5)
    clear h1 h5 hv hq
    go_wp2
    go_ret)
  all_goals exact ⟨rfl, H6.out⟩
end
end Go.Proofs.YtbbhcmfkkkjehaaGreat.Brd
