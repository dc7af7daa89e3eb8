/- Both boards behind any calls: the law's act and same as one contract each. -/
import Derived.Test.YtbbhcmfkkkjehaaGreatBdBg
namespace Go.Proofs.YtbbhcmfkkkjehaaGreat.Brd
open Go.RowKit Go.Proofs.YtbbhcmfkkkjehaaGreat.Mem Go.Proofs.YtbbhcmfkkkjehaaGreat.Sep Go.Proofs.YtbbhcmfkkkjehaaGreat.Opn Go.Proofs.YtbbhcmfkkkjehaaGreat.Member Go.Proofs.YtbbhcmfkkkjehaaGreat.Bay Go.Proofs.YtbbhcmfkkkjehaaGreat.Lab Go.Proofs.YtbbhcmfkkkjehaaGreat.App Go.Proofs.YtbbhcmfkkkjehaaGreat.B8 Go.Proofs.YtbbhcmfkkkjehaaGreat.CrcS Go.Proofs.YtbbhcmfkkkjehaaGreat.Num
open Go.Proofs.YtbbhcmfkkkjehaaGreatW.PrintWords hiding bt
set_option linter.unusedVariables false
set_option linter.unusedSimpArgs false

theorem two_ints {w : World} {a : Array Value} (h : Rd w (arr 1 (.int .i64) 2) a.toList) : ∃ x0 x1 : Int, a = #[.int .i64 x0, .int .i64 x1] ∧ (Lit.int .i64 x0).wf = true ∧ (Lit.int .i64 x1).wf = true := by
  obtain ⟨⟨x, e0, hx⟩, ⟨y, e1, hy⟩, h2⟩ := h
  obtain ⟨r0, e2⟩ := head1 e0
  have e2 : a.toList = .int .i64 x :: r0 := e2
  rw [e2] at e1
  obtain ⟨r1, rfl⟩ := head1 (by simpa using e1)
  have h2 : Rd w .nil (((a.toList).drop 1).drop 1) := h2
  rw [e2] at h2
  have h3 : r1 = [] := by
    have h4 : Rd w .nil r1 := by simpa using h2
    exact h4
  subst h3
  have e3 : a = (a.toList).toArray := rfl
  rw [e2] at e3
  exact ⟨x, y, e3, hx, hy⟩
/-- Both boards. -/
def Pst (w0 : World) (V B R n N : Nat) (ps rs : List Nat) (k : Nat) (w : World) : Prop :=
  ∃ b, Bi b N k ∧ Sz b ∧ (Sp w0 [vz V B R, bay B ps n b, rbay R rs n b] w ∨ ∃ X Y l, Lok l N ∧ Sp w0 [vb V B X R Y, bay B ps n b, rbay R rs n b, board X B l, rboard Y R l] w)
theorem Sp.base {w w1 w2 : World} {L : List Asn} (h : Sp w1 L w2) (hb : Below w.heap.size w w1) : Sp w L w2 := by
  obtain ⟨⟨R, ha, hR⟩, h2⟩ := h
  exact ⟨⟨R, ha, fun k hk => Nat.le_trans hb.size (hR k hk)⟩, bt hb h2⟩
section
variable {w0 w : World} {V B R n N : Nat} {ps rs : List Nat} {k : Nat}
theorem Pst.bel (h : Pst w0 V B R n N ps rs k w) : Below w0.heap.size w0 w := by
  obtain ⟨b, _, _, h | ⟨X, Y, l, _, h⟩⟩ := h
  · exact h.bel
  · exact h.bel
theorem Pst.any (h : Pst w0 V B R n N ps rs k w) (o : Obj) : Pst w0 V B R n N ps rs k (w.alloc o) := by
  obtain ⟨b, h1, h2, h | ⟨X, Y, l, hl, h⟩⟩ := h
  · exact ⟨b, h1, h2, .inl (h.any o)⟩
  · exact ⟨b, h1, h2, .inr ⟨X, Y, l, hl, h.any o⟩⟩
theorem Pst.step {w' : World} (h : Pst w0 V B R n N ps rs k w) (hb : Below w.heap.size w w') : Pst w0 V B R n N ps rs k w' := by
  obtain ⟨b, h1, h2, h | ⟨X, Y, l, hl, h⟩⟩ := h
  · exact ⟨b, h1, h2, .inl (h.step hb)⟩
  · exact ⟨b, h1, h2, .inr ⟨X, Y, l, hl, h.step hb⟩⟩
theorem pst_same (h : Pst w0 V B R n N ps rs k w) :
    Calls Tryz.prog 42 #[.pointer (some ⟨V, 0, none⟩)] w fun e w' => e = .returned (.bool true) ∧ Pst w0 V B R n N ps rs k w' := by
  obtain ⟨b, h1, h2, h | ⟨X, Y, l, hl, h⟩⟩ := h
  · exact (bsame_none h).mono fun e w' ⟨he, hs⟩ => ⟨he, b, h1, h2, .inl hs⟩
  · exact (bsame_some h hl h1.len).mono fun e w' ⟨he, hs⟩ => ⟨he, b, h1, h2, .inr ⟨X, Y, l, hl, hs⟩⟩
theorem sp_cut : ∀ {L1 L2 : List Asn} {w' : World}, Sp w0 (L1 ++ L2) w' → Sp w0 L1 w' := fun {L1 L2 w'} h => by
  have h1 : Sp w0 (L2 ++ L1) w' := h.perm List.perm_append_comm
  clear h
  induction L2 with
  | nil => exact h1
  | cons A L2 ih => exact ih h1.tail
theorem pst_more {j : Nat} {w' : World} (h : Pst w0 V B R n N ps rs k w') (hj : k ≤ j) : Pst w0 V B R n N ps rs j w' := by
  obtain ⟨b, h1, h2, h3⟩ := h
  exact ⟨b, h1.mono hj, h2, h3⟩
theorem pst_opened {b : By} {w' : World} (hi : Bi b N k) (hz : Sz b) (hk : k ≤ 900000) (hN : N ≤ 32) {L : List Asn} (h : Opn2 w0 V B R n ps rs b L w') : Pst w0 V B R n N ps rs (k + 64) w' := by
  rcases h with ⟨_, h⟩ | ⟨hE, X, Y, h⟩
  · exact ⟨opened b n, hi.opened hN (by omega) n, hz.opened n, .inl (sp_cut (L1 := [_, _, _]) h)⟩
  · exact ⟨opened b n, hi.opened hN (by omega) n, hz.opened n, .inr ⟨X, Y, _, lok_now hE hi.len hN, sp_cut (L1 := [_, _, _, _, _]) h⟩⟩
theorem pst_begun {w1 w2 : World} {X Y : Nat} {t : Int} {b : By} (hb : Below w.heap.size w w1) (h : Bgn w1 V B R X Y ps rs N t b w2) : Pst w V B R 110 N ps rs 2272 w2 := by
  obtain ⟨_, _, _, hw, h⟩ := h
  exact ⟨b, hw.bi, hw.sz, .inr ⟨X, Y, _, hw.lok, Sp.base h hb⟩⟩
theorem sp_split (h : Pst w0 V B R n N ps rs k w) : ∃ b x y L, Bi b N k ∧ Sz b ∧ Sp w0 (blk V #[.pointer (some ⟨B, 0, none⟩), x, .pointer (some ⟨R, 0, none⟩), y] 37 :: bay B ps n b :: rbay R rs n b :: L) w ∧
    ∀ b' w' j, k ≤ j → Bi b' N j → Sz b' → Sp w0 (blk V #[.pointer (some ⟨B, 0, none⟩), x, .pointer (some ⟨R, 0, none⟩), y] 37 :: bay B ps n b' :: rbay R rs n b' :: L) w' → Pst w0 V B R n N ps rs j w' := by
  obtain ⟨b, h1, h2, h | ⟨X, Y, l, hl, h⟩⟩ := h
  · exact ⟨b, .pointer none, .pointer none, [], h1, h2, h, fun b' w' j _ k1 k2 k3 => ⟨b', k1, k2, .inl k3⟩⟩
  · exact ⟨b, .pointer (some ⟨X, 0, none⟩), .pointer (some ⟨Y, 0, none⟩), [board X B l, rboard Y R l], h1, h2, h, fun b' w' j _ k1 k2 k3 => ⟨b', k1, k2, .inr ⟨X, Y, l, hl, k3⟩⟩⟩
theorem wf_le {x : Int} (h : (Lit.int .i64 x).wf = true) : x ≤ 9223372036854775807 := by
  have : IntKind.i64.min ≤ x ∧ x ≤ IntKind.i64.max := by simpa [Lit.wf] using h
  have := this.2
  simpa [IntKind.max, IntKind.signed, IntKind.bits] using this
theorem pst_act (h : Pst w0 V B R n N ps rs k w) (hk : k ≤ 899000) (hN1 : 1 ≤ N) (hN : N ≤ 32) (hn1 : 1 ≤ n) (hn : n ≤ 256) (c : Bm) (hok : c.ok w0) :
    Calls Tryz.prog 38 #[.pointer (some ⟨V, 0, none⟩), .agg (bC c)] w fun e w' => e = .returned (.bool true) ∧ Pst w0 V B R n N ps rs (k + 65) w' := by
  have hct := wf_le hok.t
  by_cases c3 : Go.bits .and .i64 c.x 7 = 3
  · obtain ⟨b, x, y, L, h1, h2, h3, _⟩ := sp_split h
    exact (bact_open h3 k h1 (by omega) h2 hN1 hN c hok c3).mono fun e w' ⟨he, hs⟩ => ⟨he, pst_more (pst_opened h1 h2 (by omega) hN hs) (by omega)⟩
  by_cases c4 : Go.bits .and .i64 c.x 7 = 4
  · obtain ⟨b, x, y, L, h1, h2, h3, h4⟩ := sp_split h
    exact (bact_cut h3 c hok c4).mono fun e w' ⟨he, hs⟩ => ⟨he, h4 _ _ (k + 65) (by omega) ((h1.cut c.t hct).mono (by omega)) (h2.cut c.t) hs⟩
  by_cases c5 : Go.bits .and .i64 c.x 7 = 5
  · obtain ⟨b, x, y, L, h1, h2, h3, _⟩ := sp_split h
    exact (bact_crash h3 k h1 (by omega) h2 hN1 hN c hok c5).mono fun e w' ⟨he, KS, hs⟩ => ⟨he, pst_more (pst_opened (h1.crash KS) (h2.crash KS) (by omega) hN hs) (by omega)⟩
  by_cases c6 : Go.bits .and .i64 c.x 7 = 6
  · obtain ⟨b, x, y, L, h1, h2, h3, h4⟩ := sp_split h
    refine (bact_end h3 h1.len c hok c6).mono fun e w' ⟨he, b', hb', hs⟩ => ⟨he, ?_⟩
    rcases hb' with rfl | ⟨i, rfl⟩
    · exact h4 _ _ (k + 65) (by omega) (h1.mono (by omega)) h2 hs
    · exact h4 _ _ (k + 65) (by omega) ((h1.fail i).mono (by omega)) (h2.fail i) hs
  obtain ⟨b, h1, h2, h | ⟨X, Y, l, hl, h⟩⟩ := h
  · exact (bact_none h c hok ⟨c3, c4, c5, c6⟩).mono fun e w' ⟨he, hs⟩ => ⟨he, b, h1.mono (by omega), h2, .inl hs⟩
  · have hw : Bw ⟨b, l⟩ N k := ⟨h1, h2, hl⟩
    by_cases c0 : Go.bits .and .i64 c.x 7 = 0
    · have := hw.fail (by omega) c.i
      exact (bact_fail h k h1 (by omega) hl hn1 hn c hok c0).mono fun e w' ⟨he, hs⟩ => ⟨he, _, this.bi.mono (by omega), this.sz, .inr ⟨X, Y, _, this.lok, hs⟩⟩
    by_cases c1 : Go.bits .and .i64 c.x 7 = 1
    · have := hw.replace (by omega) c.i
      exact (bact_replace h k h1 (by omega) hl hn1 hn c hok c1).mono fun e w' ⟨he, hs⟩ => ⟨he, _, this.bi.mono (by omega), this.sz, .inr ⟨X, Y, _, this.lok, hs⟩⟩
    · have := hw.advance (by omega) c.i c.t
      exact (bact_advance h k h1 (by omega) hl hn1 hn c hok ⟨c0, c1, c3, c4, c5, c6⟩).mono fun e w' ⟨he, hs⟩ => ⟨he, _, this.bi.mono (by omega), this.sz, .inr ⟨X, Y, _, this.lok, hs⟩⟩
end
end Go.Proofs.YtbbhcmfkkkjehaaGreat.Brd
