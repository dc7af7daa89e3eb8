/- The document's New: walked. -/
import Derived.Test.YtahdhkhgokggbaaRef28T
namespace Go.Proofs.Ytahdhkhgokggbaa.Judge
open Go.RowKit Go.Proofs.Ytahdhkhgokggbaa.Mem
open Go.Proofs.YtahdhkhgokggbaaW.PrintWords hiding bt
set_option linter.unusedVariables false
set_option linter.unusedSimpArgs false

/-- The document's Flat under way. -/
structure Rn (w0 w : World) (R kN kL : Nat) (vN vL : Value) : Prop where
  r : Blk w R #[vN, vL, .slice none 0 0] 67
  n : w.ownsRow 0 9 1 vN kN (List.replicate kN (.string z64))
  l : w.ownsRow 0 9 1 vL kL (List.replicate kL (.string z64))
  an : ∀ g, vN.ownBlock = some g → g ≠ R ∧ vL.ownBlock ≠ some g ∧ w0.heap.size ≤ g
  al : ∀ g, vL.ownBlock = some g → g ≠ R ∧ w0.heap.size ≤ g
  hr : w0.heap.size ≤ R
  bel : Below w0.heap.size w0 w
theorem Rn.below {w0 w w' : World} {R kN kL : Nat} {vN vL : Value} (h : Rn w0 w R kN kL vN vL) (k : Below w.heap.size w w') : Rn w0 w' R kN kL vN vL :=
  ⟨h.r.below k h.r.lt, own_same h.n (fun i hi => k.block i (h.n.lt i hi).2), own_same h.l (fun i hi => k.block i (h.l.lt i hi).2), h.an, h.al, h.hr, bt h.bel k⟩
theorem own_some {w : World} {base : Nat} {e : TypeId} {size n : Nat} {v : Value} {xs : List Value} (h : w.ownsRow base e size v (n + 1) xs) : ∃ g, v.ownBlock = some g := by
  obtain ⟨g, c, rfl⟩ := own_succ h; exact ⟨g, rfl⟩
/-- Behind an append to what is now, and its store. -/
theorem Rn.pushN {w0 w w2 : World} {R kN kL : Nat} {vN vL v' : Value} {o : Obj} (h : Rn w0 w R kN kL vN vL) (hown : w2.ownsRow 0 9 1 v' (kN + 1) (List.replicate kN (.string z64) ++ [.string z64])) (hgrow : (w.alloc o).grownBy w2 vN.ownBlock)
    (hat : v'.ownBlock = vN.ownBlock ∨ v'.ownBlock = some (w.alloc o).heap.size) : Blk w2 R #[vN, vL, .slice none 0 0] 67 ∧ Rn w0 (w2.setCell ⟨R, 0, none⟩ v') R (kN + 1) kL v' vL := by
  have far : ∀ k, k < w.heap.size → some k ≠ vN.ownBlock → w2.heap[k]? = w.heap[k]? := fun k hk hne => by
    have h1 := hgrow.block k (by simp; omega) hne
    rw [h1, Below.heap_alloc _ _ _ hk]
  have hRl := h.r.lt
  have hb2 : Blk w2 R #[vN, vL, .slice none 0 0] 67 := (far R hRl (fun e => (h.an R e.symm).1 rfl)).trans h.r
  obtain ⟨q, hq⟩ := own_some hown
  have hql := (hown.lt q hq).2
  have hsz := h.bel.size
  have hq2 : vN.ownBlock = some q ∨ q = w.heap.size + 1 := by
    rcases hat with e | e
    · exact .inl (by rw [← e, hq])
    · exact .inr (by rw [hq] at e; simpa using e)
  have hqR : q ≠ R := by
    rcases hq2 with e | rfl
    · exact (h.an q e).1
    · omega
  refine ⟨hb2, hb2.set 0 v', ?_, ?_, fun g hg => ?_, h.al, h.hr, ?_⟩
  · rw [List.replicate_succ']
    exact own_same hown (fun k hk => by rw [hq] at hk; cases hk; exact Below.heap_setCell _ _ _ _ hqR)
  · exact own_same h.l (fun k hk => by
      rw [Below.heap_setCell _ _ _ _ (h.al k hk).1]
      exact far k (h.l.lt k hk).2 (fun e => (h.an k e.symm).2.1 hk))
  · rw [hq] at hg
    cases hg
    rcases hq2 with e | rfl
    · exact h.an _ e
    · exact ⟨hqR, fun e => by have := (h.l.lt _ e).2; omega, by omega⟩
  · refine bs ?_ h.hr _
    refine ⟨hgrow.os.trans h.bel.os, hgrow.tape.trans h.bel.tape, hgrow.output.trans h.bel.output, Nat.le_trans h.bel.size (by have := hgrow.size; simp at this; omega), fun k hk => ?_⟩
    rw [far k (by omega) (fun e => by have := (h.an k e.symm).2.2; omega)]
    exact h.bel.block k hk
theorem Rn.pushL {w0 w w2 : World} {R kN kL : Nat} {vN vL v' : Value} {o : Obj} (h : Rn w0 w R kN kL vN vL) (hown : w2.ownsRow 0 9 1 v' (kL + 1) (List.replicate kL (.string z64) ++ [.string z64])) (hgrow : (w.alloc o).grownBy w2 vL.ownBlock)
    (hat : v'.ownBlock = vL.ownBlock ∨ v'.ownBlock = some (w.alloc o).heap.size) : Blk w2 R #[vN, vL, .slice none 0 0] 67 ∧ Rn w0 (w2.setCell ⟨R, 1, none⟩ v') R kN (kL + 1) vN v' := by
  have far : ∀ k, k < w.heap.size → some k ≠ vL.ownBlock → w2.heap[k]? = w.heap[k]? := fun k hk hne => by
    have h1 := hgrow.block k (by simp; omega) hne
    rw [h1, Below.heap_alloc _ _ _ hk]
  have hRl := h.r.lt
  have hb2 : Blk w2 R #[vN, vL, .slice none 0 0] 67 := (far R hRl (fun e => (h.al R e.symm).1 rfl)).trans h.r
  obtain ⟨q, hq⟩ := own_some hown
  have hsz := h.bel.size
  have hq2 : vL.ownBlock = some q ∨ q = w.heap.size + 1 := by
    rcases hat with e | e
    · exact .inl (by rw [← e, hq])
    · exact .inr (by rw [hq] at e; simpa using e)
  have hqR : q ≠ R := by
    rcases hq2 with e | rfl
    · exact (h.al q e).1
    · omega
  refine ⟨hb2, hb2.set 1 v', ?_, ?_, fun g hg => ?_, fun g hg => ?_, h.hr, ?_⟩
  · exact own_same h.n (fun k hk => by
      rw [Below.heap_setCell _ _ _ _ (h.an k hk).1]
      exact far k (h.n.lt k hk).2 (fun e => (h.an k hk).2.1 e.symm))
  · rw [List.replicate_succ']
    exact own_same hown (fun k hk => by rw [hq] at hk; cases hk; exact Below.heap_setCell _ _ _ _ hqR)
  · obtain ⟨x1, x2, x3⟩ := h.an g hg
    refine ⟨x1, fun e => ?_, x3⟩
    rw [hq] at e
    cases e
    rcases hq2 with e | rfl
    · exact x2 e
    · have := (h.n.lt _ hg).2; omega
  · rw [hq] at hg
    cases hg
    rcases hq2 with e | rfl
    · exact h.al _ e
    · exact ⟨hqR, by omega⟩
  · refine bs ?_ h.hr _
    refine ⟨hgrow.os.trans h.bel.os, hgrow.tape.trans h.bel.tape, hgrow.output.trans h.bel.output, Nat.le_trans h.bel.size (by have := hgrow.size; simp at this; omega), fun k hk => ?_⟩
    rw [far k (by omega) (fun e => by have := (h.al k e.symm).2; omega)]
    exact h.bel.block k hk
/-- Done: a Flat of noughts. -/
theorem Rn.done {w0 w : World} {R k : Nat} {vN vL : Value} (h : Rn w0 w R k k vN vL) (hk : 1 ≤ k) : ∃ Q gN gL, Rf w R Q (List.replicate k z64) (List.replicate k z64) [] vN vL (.slice none 0 0) gN gL ∧ (∀ i, Q i → w0.heap.size ≤ i ∧ i < w.heap.size) ∧ Below w0.heap.size w0 w := by
  obtain ⟨k, rfl⟩ : ∃ m, k = m + 1 := ⟨k - 1, by omega⟩
  obtain ⟨gN, hN⟩ := own_some h.n
  obtain ⟨gL, hL⟩ := own_some h.l
  obtain ⟨x1, x2, x3⟩ := h.an gN hN
  obtain ⟨y1, y2⟩ := h.al gL hL
  have lN := (h.n.lt gN hN).2
  have lL := (h.l.lt gL hL).2
  have lR := h.r.lt
  refine ⟨fun i => i = R ∨ i = gN ∨ i = gL, gN, gL, ⟨h.r, ⟨by rw [List.length_replicate, List.map_replicate]; exact h.n, hN⟩, ⟨by rw [List.length_replicate, List.map_replicate]; exact h.l, hL⟩, World.ownsRow_nil _ _ _ _, fun e => x2 (e ▸ hL), x1, y1, fun k hk => by simp [Value.ownBlock] at hk, .inl rfl, .inr (.inl rfl), .inr (.inr rfl)⟩, fun i hi => ?_, h.bel⟩
  have := h.hr
  rcases hi with rfl | rfl | rfl
  · exact ⟨h.hr, lR⟩
  · exact ⟨x3, lN⟩
  · exact ⟨y2, lL⟩

set_option maxRecDepth 100000 in
theorem rnew_no (n : Int) (hn : n < 1 ∨ 2048 < n) (w : World) :
    Calls Try.prog 30 #[.int .i64 n] w fun e w' => e = .returned (.tuple #[.pointer none, .int .i64 2]) ∧ Drawn0 w w' := by
  by_cases h1 : n < 1
  · have d1 : decide (n < 1) = true := decide_eq_true h1
    go_enter Try.func30, Try.ntmps30
    go_wp2
    go_ret2
    exact ⟨rfl, Drawn0.refl _⟩
  · have d1 : decide (n < 1) = false := decide_eq_false h1
    have h2 : 2048 < n := by omega
    have d2 : decide (2048 < n) = true := decide_eq_true h2
    go_enter Try.func30, Try.ntmps30
    go_wp2
    go_ret2
    exact ⟨rfl, Drawn0.refl _⟩
theorem z64_bytes : bytes (List.replicate 64 0) = z64 := by unfold bytes z64; rfl
set_option maxHeartbeats 4000000 in
set_option maxRecDepth 100000 in
theorem rnew_yes (n : Nat) (h1 : 1 ≤ n) (h2 : n ≤ 2048) (w : World) :
    Calls Try.prog 30 #[.int .i64 (n : Nat)] w fun e w' => e = .returned (.tuple #[.pointer (some ⟨w.heap.size, 0, none⟩), .int .i64 0]) ∧
      ∃ vN vL, Rn w w' w.heap.size n n vN vL := by
  have d1 : decide ((n : Int) < 1) = false := decide_eq_false (by omega)
  have d2 : decide ((2048 : Int) < (n : Int)) = false := decide_eq_false (by omega)
  obtain ⟨i0, hi0, hz0, hz1, hz2⟩ := info_parts str_info
  have h0 : Rn w (w.alloc (.cells #[.slice none 0 0, .slice none 0 0, .slice none 0 0] 67)) w.heap.size 0 0 (.slice none 0 0) (.slice none 0 0) :=
    ⟨Blk.new _ _ _, World.ownsRow_nil _ _ _ _, World.ownsRow_nil _ _ _ _, fun g hg => by simp [Value.ownBlock] at hg, fun g hg => by simp [Value.ownBlock] at hg, Nat.le_refl _, ba (br _) _⟩
  obtain ⟨R, hR⟩ : ∃ R, R = w.heap.size := ⟨_, rfl⟩
  rw [← hR] at h0 ⊢
  have HR := Lib.hid hR
  have H0 := Lib.hid h0
  clear hR h0
  go_enter Try.func30, Try.ntmps30
  go_wp2
  rw [← HR.out]
  go_loopw [5] (fun i wr => ∃ (k : Nat) (vN vL : Value), k ≤ n ∧ i = .int .i64 k ∧ Rn w wr R k k vN vL) (fun i _ => n - (intOf i).toNat)
  case atStart => exact ⟨0, _, _, Nat.zero_le _, rfl, H0.out⟩
  case round =>
    obtain ⟨k, vN, vL, hk, rfl, hrn⟩ := hrel
    by_cases hlt : k < n
    · have dlt : decide ((k : Int) < (n : Int)) = true := decide_eq_true (by omega)
      have ilt : ((k : Int) < (n : Int)) = True := eq_true (by omega)
      have hmk := made8 wr 64 (by omega)
      obtain ⟨w1, hw1⟩ : ∃ w1, w1 = wr.alloc (.cells (cells8 (List.replicate 64 0)) 5) := ⟨_, rfl⟩
      have hcv := conv8 w1 wr.heap.size (List.replicate 64 0) 64 64 (List.length_replicate) (by rw [hw1]; exact Blk.new _ _ _)
      rw [z64_bytes] at hcv
      have h1 : Rn w w1 R k k vN vL := by rw [hw1]; exact hrn.below (ba (br _) _)
      rw [← hw1] at hmk
      simp only [Int.cast_ofNat_Int] at hmk
      have c0 : w1.cell? ⟨R, 0, none⟩ = some vN := by rw [h1.r.cell]; rfl
      have hown := h1.n
      have hownA := fun o => hown.alloc o
      have hRlt := h1.r.lt
      have HN := Lib.hid h1
      clear hrn hw1 h1
      go_wp2_with (at_builtin; refine wpList_append_own_at _ rfl (.tmp 26) (.tmp 28) 32 rfl 0 9 i0 (.string ⟨#[]⟩) 1 16 Try.underlying32 hi0 hz0 hz1 hz2 rfl (by decide) vN k (List.replicate k (.string z64)) rfl (hownA _) ⟨w1.heap.size, 0, none⟩ 1 1 [.string z64] rfl rfl ?x1 ?x2 ?x3 ?x4 ?x5 ?_)
      case x1 => intro y z hz; cases y with | zero => simp at hz; subst hz; exact (Blk.new w1 #[.string z64] 9).cell 0 | succ y => simp at hz
      case x2 => intro y hy; simp at hy; subst hy; rfl
      case x3 => unfold maxLen; omega
      case x4 => omega
      case x5 => omega
      intro v' w2 hown3 hgrow hnil hat
      obtain ⟨hb2, hr2⟩ := HN.out.pushN hown3 hgrow (by rcases hat with e | e; exact .inl e; exact .inr (by rw [e]; simp))
      obtain ⟨q', cap', hvq⟩ := own_succ hown3
      subst hvq
      have e0 : w2.cell? ⟨R, 0, none⟩ = some vN := by rw [hb2.cell]; rfl
      have f0 := hb2.frozen 0
      have f1 := hr2.r.frozen 1
      have hRlt2 := hb2.lt
      obtain ⟨w3, hw3⟩ : ∃ w3, w3 = w2.setCell ⟨R, 0, none⟩ (.slice (some ⟨q', 0, none⟩) (k + 1) cap') := ⟨_, rfl⟩
      rw [← hw3] at hr2 f1
      have e1 : w3.cell? ⟨R, 1, none⟩ = some vL := by rw [hr2.r.cell]; rfl
      have HR2 := Lib.hid hr2
      have HW3 := Lib.hid hw3
      have hown4 := fun o => hr2.l.alloc o
      have hRlt3 := hr2.r.lt
      clear hown3 hgrow hnil hat hb2 hr2 hw3 hownA hown c0
      go_upto_region 9 with fail
      rw [← HW3.out]
      go_wp2_with (at_builtin; refine wpList_append_own_at _ rfl (.tmp 36) (.tmp 38) 32 rfl 0 9 i0 (.string ⟨#[]⟩) 1 16 Try.underlying32 hi0 hz0 hz1 hz2 rfl (by decide) vL k (List.replicate k (.string z64)) rfl (hown4 _) ⟨w3.heap.size, 0, none⟩ 1 1 [.string z64] rfl rfl ?y1 ?y2 ?y3 ?y4 ?y5 ?_)
      case y1 => intro y z hz; cases y with | zero => simp at hz; subst hz; exact (Blk.new w3 #[.string z64] 9).cell 0 | succ y => simp at hz
      case y2 => intro y hy; simp at hy; subst hy; rfl
      case y3 => unfold maxLen; omega
      case y4 => omega
      case y5 => omega
      intro v2 w4 hown5 hgrow2 hnil2 hat2
      obtain ⟨hb4, hr4⟩ := HR2.out.pushL hown5 hgrow2 (by rcases hat2 with e | e; exact .inl e; exact .inr (by rw [e]; simp))
      obtain ⟨q2, cap2, hvq2⟩ := own_succ hown5
      subst hvq2
      have g1 : w4.cell? ⟨R, 1, none⟩ = some vL := by rw [hb4.cell]; rfl
      have f4 := hb4.frozen 1
      have HR4 := Lib.hid hr4
      clear hown5 hgrow2 hnil2 hat2 hb4 hr4 hown4 e1
      go_wp2
      go_roundw
      case measure => simp [intOf]; omega
      case rel => exact ⟨k + 1, _, _, by omega, by go_num, HR4.out⟩
    · obtain rfl : k = n := by omega
      have dlt : decide ((k : Int) < (k : Int)) = false := decide_eq_false (by omega)
      have HN := Lib.hid hrn
      clear hrn
      go_wp2
      go_ret2
      exact ⟨rfl, vN, vL, HN.out⟩
end Go.Proofs.Ytahdhkhgokggbaa.Judge
