/- The document's Flat: the calls that write; walked. -/
import Derived.Test.YtahdhkhgokggbaaRef28
namespace Go.Proofs.Ytahdhkhgokggbaa.Judge
open Go.RowKit Go.Proofs.Ytahdhkhgokggbaa.Mem
open Go.Proofs.YtahdhkhgokggbaaW.PrintWords hiding bt
set_option linter.unusedVariables false
set_option linter.unusedSimpArgs false

theorem Own.set {w : World} {v : Value} {g : Nat} {l : List ByteArray} (h : Own w v g l) (i : Nat) (s : ByteArray) : Own (w.setCell ⟨g, i, none⟩ (.string s)) v g (l.set i s) := by
  obtain ⟨⟨h1, h2⟩, h3⟩ := h
  refine ⟨⟨by simp, ?_⟩, h3⟩
  rcases h2 with ⟨rfl, _⟩ | ⟨g', cap, cur, rfl, hb, hg, hn, hc, hs, ht⟩
  · simp [Value.ownBlock] at h3
  · simp [Value.ownBlock] at h3
    subst h3
    refine .inr ⟨g', cap, cur.setIfInBounds i (.string s), by rw [List.length_set], hb, (show Blk (w.setCell ⟨g', i, none⟩ (.string s)) g' (cur.setIfInBounds i (.string s)) 9 from Blk.set hg i (.string s)), by rw [List.length_set]; exact hn, hc, by simpa using hs, ?_⟩
    rw [List.length_set, Array.toList_setIfInBounds, List.take_set, ht, List.map_set]
theorem Own.frozen {w : World} {v : Value} {g : Nat} {l : List ByteArray} (h : Own w v g l) (i : Nat) : w.frozen? ⟨g, i, none⟩ = false := by
  obtain ⟨⟨h1, h2⟩, h3⟩ := h
  rcases h2 with ⟨rfl, _⟩ | ⟨g', cap, cur, rfl, hb, hg, hn, hc, hs, ht⟩
  · simp [Value.ownBlock] at h3
  · simp [Value.ownBlock] at h3
    subst h3
    exact Blk.frozen hg i
theorem put_info : (Try.prog.info? 144).map (fun i => (i.zero, i.size, i.bytes)) = some (some (.agg #[.int .i64 0, .string ⟨#[]⟩]), 2, 24) := by kernel_rfl

section
variable {w : World} {R : Nat} {Q : Nat → Prop} {now lasts : List ByteArray} {since : Since} {vN vL vS : Value} {gN gL : Nat}
theorem Rf.push (h : Rf w R Q now lasts since vN vL vS gN gL) (hQ : ∀ k, Q k → k < w.heap.size) (nd : Nat) (b : Int) (s : ByteArray) {w2 : World} {v' : Value} {o : Obj}
    (hown : w2.ownsRow 0 144 2 v' (since.length + 1) (cellsS since ++ [.int .i64 b, .string s])) (hgrow : ((w.drewN nd).alloc o).grownBy w2 vS.ownBlock)
    (hat : v'.ownBlock = vS.ownBlock ∨ v'.ownBlock = some ((w.drewN nd).alloc o).heap.size) :
    Blk w2 R #[vN, vL, vS] 67 ∧ ∃ Q', Sub Q Q' w (w2.setCell ⟨R, 2, none⟩ v') ∧ Rf (w2.setCell ⟨R, 2, none⟩ v') R Q' now lasts (since ++ [(b, s)]) vN vL v' gN gL ∧ Keep Q w (w2.setCell ⟨R, 2, none⟩ v') := by
  have hsize : w.heap.size + 1 ≤ w2.heap.size := by have := hgrow.size; simp at this; exact this
  have hRl := hQ R h.qr
  have far : ∀ k, k < w.heap.size → some k ≠ vS.ownBlock → w2.heap[k]? = w.heap[k]? := fun k hk hne => by
    have h1 := hgrow.block k (by simp; omega) hne
    rw [h1, Below.heap_alloc _ _ _ (by simpa using hk)]; rfl
  have hne : ∀ k, vS.ownBlock = some k → k ≠ R := fun k hk => (h.sp k hk).2.2.1
  have hRb : w2.heap[R]? = w.heap[R]? := far R hRl (fun e => hne R e.symm rfl)
  have hb2 : Blk w2 R #[vN, vL, vS] 67 := hRb.trans h.r
  refine ⟨hb2, ?_⟩
  obtain ⟨q, hq, hq2⟩ : ∃ q, v'.ownBlock = some q ∧ (vS.ownBlock = some q ∨ q = w.heap.size + 1) := by
    rcases hown.2 with ⟨_, h0⟩ | ⟨g, cap, cur, hv, _⟩
    · omega
    · rcases hat with e | e
      · exact ⟨g, by rw [hv]; rfl, .inl (by rw [← e, hv]; rfl)⟩
      · exact ⟨_, e, .inr (by simp)⟩
  have hql : q < w2.heap.size := (hown.lt q hq).2
  have hqR : q ≠ R := by
    rcases hq2 with e | rfl
    · exact hne q e
    · omega
  have far2 : ∀ k, k < w.heap.size → some k ≠ vS.ownBlock → k ≠ R → (w2.setCell ⟨R, 2, none⟩ v').heap[k]? = w.heap[k]? := fun k hk h1 h2 => by
    rw [Below.heap_setCell _ _ _ _ h2]; exact far k hk h1
  have hgN := hQ gN h.qn
  have hgL := hQ gL h.ql
  refine ⟨fun k => Q k ∨ k = q, fun k hk => ?_, ⟨hb2.set 2 v', h.n.same (far2 gN hgN (fun e => (h.sp gN e.symm).1 rfl) h.nr), h.l.same (far2 gL hgL (fun e => (h.sp gL e.symm).2.1 rfl) h.lr), ?_, h.nl, h.nr, h.lr, fun k hk => ?_, .inl h.qr, .inl h.qn, .inl h.ql⟩, ?_⟩
  · rcases hk with hk | rfl
    · exact .inl hk
    · rcases hq2 with e | rfl
      · exact .inl (h.sp _ e).2.2.2
      · exact .inr ⟨by omega, by simpa using hql⟩
  · have e : cellsS (since ++ [(b, s)]) = cellsS since ++ [.int .i64 b, .string s] := by unfold cellsS; rw [List.flatMap_append]; rfl
    have h1 : w2.ownsRow 0 144 2 v' (since ++ [(b, s)]).length (cellsS (since ++ [(b, s)])) := by rw [List.length_append, e]; exact hown
    exact own_same h1 (fun k hk => by rw [hq] at hk; cases hk; exact Below.heap_setCell _ _ _ _ hqR)
  · rw [hq] at hk
    cases hk
    rcases hq2 with e | rfl
    · obtain ⟨x1, x2, x3, x4⟩ := h.sp _ e
      exact ⟨x1, x2, x3, .inl x4⟩
    · exact ⟨by omega, by omega, by omega, .inr rfl⟩
  · refine ⟨hgrow.os, hgrow.tape, hgrow.output, by simp; omega, fun k hk hn => ?_⟩
    exact far2 k hk (fun e => hn (h.sp k e.symm).2.2.2) (fun e => hn (e ▸ h.qr))
theorem Rf.setNow (h : Rf w R Q now lasts since vN vL vS gN gL) (i : Nat) (s : ByteArray) : Rf (w.setCell ⟨gN, i, none⟩ (.string s)) R Q (now.set i s) lasts since vN vL vS gN gL where
  r := h.r.setOther (p := ⟨gN, i, none⟩) h.nr _
  n := h.n.set i s
  l := h.l.same (Below.heap_setCell _ _ _ _ (Ne.symm h.nl))
  s := own_same h.s (fun k hk => Below.heap_setCell _ _ _ _ (h.sp k hk).1)
  nl := h.nl
  nr := h.nr
  lr := h.lr
  sp := h.sp
  qr := h.qr
  qn := h.qn
  ql := h.ql
theorem Rf.setLast (h : Rf w R Q now lasts since vN vL vS gN gL) (i : Nat) (s : ByteArray) : Rf (w.setCell ⟨gL, i, none⟩ (.string s)) R Q now (lasts.set i s) since vN vL vS gN gL where
  r := h.r.setOther (p := ⟨gL, i, none⟩) h.lr _
  n := h.n.same (Below.heap_setCell _ _ _ _ h.nl)
  l := h.l.set i s
  s := own_same h.s (fun k hk => Below.heap_setCell _ _ _ _ (h.sp k hk).2.1)
  nl := h.nl
  nr := h.nr
  lr := h.lr
  sp := h.sp
  qr := h.qr
  qn := h.qn
  ql := h.ql
theorem Rf.setNone (h : Rf w R Q now lasts since vN vL vS gN gL) : Rf (w.setCell ⟨R, 2, none⟩ (.slice none 0 0)) R Q now lasts [] vN vL (.slice none 0 0) gN gL where
  r := h.r.set 2 _
  n := h.n.same (Below.heap_setCell _ _ _ _ h.nr)
  l := h.l.same (Below.heap_setCell _ _ _ _ h.lr)
  s := World.ownsRow_nil _ _ _ _
  nl := h.nl
  nr := h.nr
  lr := h.lr
  sp := fun k hk => by simp [Value.ownBlock] at hk
  qr := h.qr
  qn := h.qn
  ql := h.ql

def nowR (now : List ByteArray) (i : Int) (s : ByteArray) (told : Bool) : List ByteArray := if putE now.length i s = 0 ∧ told = true then now.set i.toNat s else now
def sinceR (now : List ByteArray) (since : Since) (i : Int) (s : ByteArray) : Since := if putE now.length i s = 0 then since ++ [(i, s)] else since

set_option maxHeartbeats 4000000 in
set_option maxRecDepth 100000 in
theorem rwrite_calls (h : Rf w R Q now lasts since vN vL vS gN gL) (hQ : ∀ k, Q k → k < w.heap.size) (hs : since.length ≤ 1000000) (i : Int) (s : ByteArray) (told : Bool) :
    Calls Try.prog 37 #[.pointer (some ⟨R, 0, none⟩), .int .i64 i, .string s, .bool told] w fun e w' => e = .returned (.int .i64 (putE now.length i s)) ∧ RfP w w' R Q (nowR now i s told) lasts (sinceR now since i s) := by
  obtain ⟨c0, c1, c2⟩ := h.cells
  obtain ⟨cN, hvN, hcN, hcN2⟩ := h.n.shape
  rw [hvN] at c0
  have HF := Lib.hid (And.intro h hQ)
  obtain ⟨nn, hnn⟩ : ∃ x, x = now.length := ⟨_, rfl⟩
  by_cases hi : i < 0 ∨ (now.length : Int) ≤ i
  · have hE : putE now.length i s = 3 := by unfold putE; rw [if_pos hi]
    have hS : nowR now i s told = now := by unfold nowR; rw [hE, if_neg (by simp)]
    have hT : sinceR now since i s = since := by unfold sinceR; rw [hE, if_neg (by decide)]
    rw [hE, hS, hT]
    rw [← hnn] at c0 hi
    clear hE hS hT hvN hcN hcN2 hnn h hQ
    by_cases h0 : i < 0
    · have d0 : decide (i < 0) = true := decide_eq_true h0
      go_enter Try.func37, Try.ntmps37
      go_wp2
      go_ret
      exact ⟨rfl, HF.out.1.rfp 0⟩
    · have d0 : decide (i < 0) = false := decide_eq_false h0
      have h1 : (nn : Int) ≤ i := by omega
      have d1 : decide ((nn : Int) ≤ i) = true := decide_eq_true h1
      go_enter Try.func37, Try.ntmps37
      go_wp2
      go_ret
      exact ⟨rfl, HF.out.1.rfp 0⟩
  · obtain ⟨k, rfl⟩ : ∃ k : Nat, i = k := ⟨i.toNat, by omega⟩
    rw [← hnn] at c0 hi
    have d0 : decide ((k : Int) < 0) = false := decide_eq_false (by omega)
    have d1 : decide ((nn : Int) ≤ (k : Int)) = false := decide_eq_false (by omega)
    have d2 : ¬ (nn : Int) ≤ (k : Int) := by omega
    have j0 : (0 : Int) ≤ (k : Int) := by omega
    have j1 : (k : Int) < (nn : Int) := by omega
    by_cases h64 : s.size = 64
    · have hE : putE now.length (k : Int) s = 0 := by unfold putE; rw [if_neg (by omega), if_pos h64]
      have hT : sinceR now since (k : Int) s = since ++ [((k : Int), s)] := by unfold sinceR; rw [hE, if_pos rfl]
      have hN : nowR now (k : Int) s told = if told = true then now.set k s else now := by unfold nowR; rw [hE, Int.toNat_natCast]; simp
      rw [hE, hT, hN]
      have q0 : ((s.size : Int) == 64) = true := beq_iff_eq.2 (by omega)
      have q1 : ((s.size : Int) != 64) = false := bne_eq_false_iff_eq.2 (by omega)
      obtain ⟨i0, hi0, hz0, hz1, hz2⟩ := info_parts put_info
      have hown : w.ownsRow 0 144 2 vS since.length (cellsS since) := h.s
      have hRl : R < w.heap.size := hQ R h.qr
      have HKN := Lib.hid (And.intro hnn hvN)
      obtain ⟨cs, hcs⟩ : ∃ cs, cs = cellsS since := ⟨_, rfl⟩
      obtain ⟨m, hm⟩ : ∃ m, m = since.length := ⟨_, rfl⟩
      rw [← hcs, ← hm] at hown
      rw [← hm] at hs
      have HCS := Lib.hid (And.intro hcs hm)
      have hownA := fun o => hown.alloc o
      clear hE hT hN hvN hnn h hQ hi h64 hcs hm
      go_enter Try.func37, Try.ntmps37
      go_wp2_with (at_builtin; refine wpList_append_own_at _ rfl (.tmp 27) (.tmp 31) 65 rfl 0 144 i0 (.agg #[.int .i64 0, .string ⟨#[]⟩]) 2 24 Try.underlying65 hi0 hz0 hz1 hz2 rfl (by decide) vS m cs rfl (hownA _) ⟨w.heap.size, 0, none⟩ 1 1 [.int .i64 (k : Int), .string s] rfl rfl ?c1 ?c2 ?c3 ?c4 ?c5 ?_)
      case c2 => exact ⟨rfl, rfl⟩
      case c3 => unfold maxLen; omega
      case c4 => omega
      intro v' w2 hown3 hgrow hnil hat
      obtain ⟨q', cap', hvq⟩ := own_succ hown3
      subst hvq
      have hpost := HF.out.1.push HF.out.2 0 (k : Int) s (w2 := w2) (by rw [← HCS.out.1, ← HCS.out.2]; exact hown3) hgrow (by rcases hat with e | e; exact .inl e; exact .inr (by rw [e]; simp [World.drewN]))
      obtain ⟨hb2, Q', p1, p2, p3⟩ := hpost
      have hc2 := hb2.cell 2
      have hf2 := hb2.frozen 2
      have hc2' : w2.cell? ⟨R, 2, none⟩ = some vS := by rw [hc2]; rfl
      have HPOST := Lib.hid (And.intro p1 (And.intro p2 p3))
      have hRl2 : R < w2.heap.size := hb2.lt
      clear hown3 hgrow hnil hat hb2 p1 p2 p3 hc2
      cases told with
      | false =>
        go_wp2
        go_ret
        exact ⟨rfl, Q', _, _, _, _, _, HPOST.out.1, HPOST.out.2.1, HPOST.out.2.2⟩
      | true =>
        obtain ⟨n0, n1, n2⟩ := HPOST.out.2.1.cells
        rw [HKN.out.2, ← HKN.out.1] at n0
        have hcell : (w2.setCell ⟨R, 2, none⟩ (.slice (some ⟨q', 0, none⟩) (m + 1) cap')).cell? ⟨gN, k, none⟩ = some (.string (now.getD k ⟨#[]⟩)) := HPOST.out.2.1.n.cell (by rw [List.getD_eq_getElem?_getD, List.getElem?_eq_getElem (by have := HKN.out.1; omega)]; rfl)
        have hfz := HPOST.out.2.1.n.frozen k
        have hlast := HPOST.out.2.1.setNow k s
        have hkeep2 : Keep Q w ((w2.setCell ⟨R, 2, none⟩ (.slice (some ⟨q', 0, none⟩) (m + 1) cap')).setCell ⟨gN, k, none⟩ (.string s)) := HPOST.out.2.2.setCell (p := ⟨gN, k, none⟩) (.inl HF.out.1.qn) _
        have HL := Lib.hid (And.intro hlast hkeep2)
        obtain ⟨W3, hW3⟩ : ∃ W3, W3 = w2.setCell ⟨R, 2, none⟩ (.slice (some ⟨q', 0, none⟩) (m + 1) cap') := ⟨_, rfl⟩
        clear hlast hkeep2 n1 n2
        go_wp2
        go_ret
        refine ⟨rfl, Q', _, _, _, _, _, ?_, HL.out.1, HL.out.2⟩
        intro x hx
        rcases HPOST.out.1 x hx with q | q
        · exact .inl q
        · exact .inr ⟨q.1, by simp; simpa using q.2⟩
    · have hE : putE now.length (k : Int) s = 4 := by unfold putE; rw [if_neg (by omega), if_neg h64]
      have hT : sinceR now since (k : Int) s = since := by unfold sinceR; rw [hE, if_neg (by decide)]
      have hN : nowR now (k : Int) s told = now := by unfold nowR; rw [hE, if_neg (by simp)]
      rw [hE, hT, hN]
      have q0 : ((s.size : Int) == 64) = false := beq_eq_false_iff_ne.2 (by omega)
      have q1 : ((s.size : Int) != 64) = true := bne_iff_ne.2 (by omega)
      clear hE hT hN hvN hcN hcN2 hnn h hQ hi h64
      go_enter Try.func37, Try.ntmps37
      go_wp2
      go_ret
      exact ⟨rfl, HF.out.1.rfp 0⟩
end
end Go.Proofs.Ytahdhkhgokggbaa.Judge
