/- slices.Clone of a label's rows, walked. -/
import Derived.Test.YtmpbohbecidkhaaLabArg
import Derived.Lib.SliceRun
namespace Go.Proofs.Ytmpbohbecidkhaa.Lab
open Go.RowKit Go.Proofs.Ytmpbohbecidkhaa.Mem Go.Proofs.Ytmpbohbecidkhaa.Sep Go.Proofs.Ytmpbohbecidkhaa.App
open Go.Proofs.YtmpbohbecidkhaaW.PrintWords hiding bt
set_option linter.unusedVariables false
set_option linter.unusedSimpArgs false
set_option maxHeartbeats 4000000 in
set_option maxRecDepth 100000 in
theorem cloneS_calls (L : List Int) (a : Option Addr) (n c : Nat) (hn : L.length = n) (hb : n ≤ 100000) (w : World) (hr : Rw w a L) :
    Calls Try.prog 56 #[.slice a n c] w fun e w' => ∃ v', e = .returned v' ∧ w'.ownsRow w.heap.size 67 1 v' n (il L) ∧ Below w.heap.size w w' := by
  cases a with
  | none =>
    have h0 : L = [] := by
      cases L with
      | nil => rfl
      | cons x r => obtain ⟨p, hp, _⟩ := hr 0 x rfl; cases hp
    subst h0
    obtain rfl : n = 0 := hn.symm
    have q22 : (binOp .eql 27 (.slice none 0 c) (.slice none 0 0)).run Try.prog w = .ok (.bool true) w := Lib.run_eql_slice_nil w 27 67 none 0 c 0 0 (by kernel_rfl)
    go_enter Try.func56, Try.ntmps56
    go_wp2
    go_ret
    exact ⟨_, rfl, World.ownsRow_nil _ _ _ _, br _⟩
  | some p =>
    have q22 : (binOp .eql 27 (.slice (some p) n c) (.slice none 0 0)).run Try.prog w = .ok (.bool false) w := Lib.run_eql_slice_nil w 27 67 (some p) n c 0 0 (by kernel_rfl)
    obtain ⟨i0, hi0, hz0, hz1, hz2⟩ := App.info_parts (P := Try.prog) (t := 67) (z := .int .i64 0) (s := 1) (b := 8) (by kernel_rfl)
    have HR := Lib.hid (And.intro hr hn)
    clear hr hn
    go_enter Try.func56, Try.ntmps56
    go_wp2_with (at_builtin; refine wpList_append_own _ rfl (.tmp 5) (.tmp 6) 27 rfl w.heap.size 67 i0 (.int .i64 0) 1 8 (by kernel_rfl) hi0 hz0 hz1 hz2 rfl (by decide) _ _ _ rfl (World.ownsRow_made w #[] 0 (Nat.le_refl _) (Nat.zero_le _) rfl) p n c (il L) rfl ?qc1 ?qc2 ?qc3 ?qc4 ?qc5 ?qc6 ?_)
    case qc1 => rw [Nat.mul_one]; unfold il; rw [List.length_map]; exact HR.out.2
    case qc2 =>
      intro j u hj
      unfold il at hj
      rw [List.getElem?_map] at hj
      cases hx : L[j]? with
      | none => rw [hx] at hj; cases hj
      | some x =>
        rw [hx] at hj
        obtain ⟨p', hp', hc⟩ := HR.out.1 j x hx
        cases hp'
        rw [(ba (br w) _).cell (World.block_lt_of_cell? _ _ hc), hc]
        exact hj
    case qc3 => intro u hu; unfold il at hu; obtain ⟨x, _, rfl⟩ := List.mem_map.1 hu; rfl
    case qc4 => unfold maxLen; omega
    case qc5 => omega
    case qc6 => simp
    intro v' w1 hown hgrow hnil
    go_wp2
    go_ret
    refine ⟨v', rfl, by simpa using hown, ?_⟩
    exact ((Below.refl _ w).alloc (Nat.le_refl _) _).grown hgrow (by simp) (by intro k hk; simp [Value.ownBlock] at hk; omega)
set_option maxHeartbeats 4000000 in
set_option maxRecDepth 100000 in
theorem cloneI_calls (L : List Int) (a : Option Addr) (n c : Nat) (hn : L.length = n) (hb : n ≤ 100000) (w : World) (hr : Rw w a L) :
    Calls Try.prog 57 #[.slice a n c] w fun e w' => ∃ v', e = .returned v' ∧ w'.ownsRow w.heap.size 3 1 v' n (il L) ∧ Below w.heap.size w w' := by
  cases a with
  | none =>
    have h0 : L = [] := by
      cases L with
      | nil => rfl
      | cons x r => obtain ⟨p, hp, _⟩ := hr 0 x rfl; cases hp
    subst h0
    obtain rfl : n = 0 := hn.symm
    have q22 : (binOp .eql 22 (.slice none 0 c) (.slice none 0 0)).run Try.prog w = .ok (.bool true) w := Lib.run_eql_slice_nil w 22 3 none 0 c 0 0 (by kernel_rfl)
    go_enter Try.func57, Try.ntmps57
    go_wp2
    go_ret
    exact ⟨_, rfl, World.ownsRow_nil _ _ _ _, br _⟩
  | some p =>
    have q22 : (binOp .eql 22 (.slice (some p) n c) (.slice none 0 0)).run Try.prog w = .ok (.bool false) w := Lib.run_eql_slice_nil w 22 3 (some p) n c 0 0 (by kernel_rfl)
    obtain ⟨i0, hi0, hz0, hz1, hz2⟩ := App.info_parts (P := Try.prog) (t := 3) (z := .int .i64 0) (s := 1) (b := 8) (by kernel_rfl)
    have HR := Lib.hid (And.intro hr hn)
    clear hr hn
    go_enter Try.func57, Try.ntmps57
    go_wp2_with (at_builtin; refine wpList_append_own _ rfl (.tmp 5) (.tmp 6) 22 rfl w.heap.size 3 i0 (.int .i64 0) 1 8 (by kernel_rfl) hi0 hz0 hz1 hz2 rfl (by decide) _ _ _ rfl (World.ownsRow_made w #[] 0 (Nat.le_refl _) (Nat.zero_le _) rfl) p n c (il L) rfl ?qc1 ?qc2 ?qc3 ?qc4 ?qc5 ?qc6 ?_)
    case qc1 => rw [Nat.mul_one]; unfold il; rw [List.length_map]; exact HR.out.2
    case qc2 =>
      intro j u hj
      unfold il at hj
      rw [List.getElem?_map] at hj
      cases hx : L[j]? with
      | none => rw [hx] at hj; cases hj
      | some x =>
        rw [hx] at hj
        obtain ⟨p', hp', hc⟩ := HR.out.1 j x hx
        cases hp'
        rw [(ba (br w) _).cell (World.block_lt_of_cell? _ _ hc), hc]
        exact hj
    case qc3 => intro u hu; unfold il at hu; obtain ⟨x, _, rfl⟩ := List.mem_map.1 hu; rfl
    case qc4 => unfold maxLen; omega
    case qc5 => omega
    case qc6 => simp
    intro v' w1 hown hgrow hnil
    go_wp2
    go_ret
    refine ⟨v', rfl, by simpa using hown, ?_⟩
    exact ((Below.refl _ w).alloc (Nat.le_refl _) _).grown hgrow (by simp) (by intro k hk; simp [Value.ownBlock] at hk; omega)
theorem Sp.cameRow {w0 w w' : World} {L : List Asn} {T : TypeId} {v : Value} {n : Nat} {xs : List Value} (h : Sp w0 L w) (ho : w'.ownsRow w.heap.size T 1 v n xs) (hB : Below w.heap.size w w') : Sp w0 (row T 1 v n xs :: L) w' := by
  have hsize := h.size
  have h4 := (h.step hB).bel
  have hlt := ho.lt
  obtain ⟨⟨R, h1, h2⟩, h3⟩ := h
  have h5 := h1.lt
  refine ⟨⟨fun k => v.ownBlock = some k ∨ R k, ⟨fun k => v.ownBlock = some k, R, ⟨⟨ho.1, ho.2.elim Or.inl (fun ⟨g, cap, cur, hv, hg, r⟩ => Or.inr ⟨g, cap, cur, hv, Nat.zero_le _, r⟩)⟩, fun k => Iff.rfl⟩, h1.same (fun k hk => hB.block k (h5 k hk)), fun k hk hr => by have := h5 k hr; have := (hlt k hk).1; omega, fun k => Iff.rfl⟩, fun k hk => by
    rcases hk with hk | hk
    · have := (hlt k hk).1; omega
    · exact h2 k hk⟩, h4⟩
theorem copy_ret {W : World} {b : Nat} {v0 v1 v2 v3 v4 : Value} {T : TypeId} (hb : Blk W b #[v0, v1, v2, v3, v4] T) {Q : Ending → World → Prop} (x0 x1 : Value) (r : List Value) (h : Q (.returned (.agg #[v0, v1, v2, v3, v4])) W) :
    bodyPost Try.prog Try.f31 Q Exit.ret { tmps := (x0 :: x1 :: .pointer (some ⟨b, 0, none⟩) :: r).toArray, defers := [] } W := by
  obtain ⟨⟨c0, c1, c2, c3, c4⟩, _⟩ := five hb
  exact bodyPost_ret (v := .agg #[v0, v1, v2, v3, v4]) (by simp [results, Try.results31, go_sem, *]) rfl h
set_option maxHeartbeats 8000000 in
set_option maxRecDepth 100000 in
theorem copy_calls (l : Lb) (a1 : Option Addr) (n1 c1 : Nat) (a2 : Option Addr) (n2 c2 : Nat) (w : World) (h : Got w (.agg #[.int .i64 l.m, .int .i64 l.t, .int .i64 l.ep, .slice a1 n1 c1, .slice a2 n2 c2]) l) :
    Calls Try.prog 31 #[.agg #[.int .i64 l.m, .int .i64 l.t, .int .i64 l.ep, .slice a1 n1 c1, .slice a2 n2 c2]] w fun e w' => ∃ s1 s2 : Value, e = .returned (.agg #[.int .i64 l.m, .int .i64 l.t, .int .i64 l.ep, s1, s2]) ∧ Sp w [row 67 1 s1 n1 (il l.st), row 3 1 s2 n2 (il l.mr)] w' := by
  obtain ⟨b1, k1, d1, b2, k2, d2, he, h2, h3, h4, h5, h6, h7⟩ := h
  have e1 : a1 = b1 ∧ n1 = k1 ∧ a2 = b2 ∧ n2 = k2 := by
    unfold lval at he
    injection he with he
    injection he with he
    injection he with _ he
    injection he with _ he
    injection he with _ he
    injection he with he1 he
    injection he with he2 _
    injection he1 with p1 p2 _
    injection he2 with q1 q2 _
    exact ⟨p1, p2, q1, q2⟩
  obtain ⟨rfl, rfl, rfl, rfl⟩ := e1
  have s0 := Sp.newAt (Sp.start w) #[.int .i64 l.m, .int .i64 l.t, .int .i64 l.ep, .slice a1 n1 c1, .slice a2 n2 c2] 29 w.heap.size rfl
  have s1 := (Sp.newAt s0 #[.int .i64 0, .int .i64 0, .int .i64 0, .slice none 0 0, .slice none 0 0] 29 (w.heap.size + 1) (by simp)).front 1 rfl
  have HX := Lib.hid s1
  have HR := Lib.hid (And.intro h6 h7)
  have HL := Lib.hid (And.intro h2 h3)
  clear s0 s1 h6 h7 h2 h3 he
  go_enter Try.func31, Try.ntmps31
  go_upto_region 1 with fail
  have h1 := HX.out
  obtain ⟨w1, hw1⟩ : ∃ w1, w1 = (w.alloc (.cells #[.int .i64 l.m, .int .i64 l.t, .int .i64 l.ep, .slice a1 n1 c1, .slice a2 n2 c2] 29)).alloc (.cells #[.int .i64 0, .int .i64 0, .int .i64 0, .slice none 0 0, .slice none 0 0] 29) := ⟨_, rfl⟩
  obtain ⟨r, hr⟩ : ∃ r, r = w.heap.size + 1 := ⟨_, rfl⟩
  obtain ⟨q, hq⟩ : ∃ q, q = w.heap.size := ⟨_, rfl⟩
  have hRR := And.intro (HR.out.1.step (ba (ba (br w) (.cells #[.int .i64 l.m, .int .i64 l.t, .int .i64 l.ep, .slice a1 n1 c1, .slice a2 n2 c2] 29)) (.cells #[.int .i64 0, .int .i64 0, .int .i64 0, .slice none 0 0, .slice none 0 0] 29))) (HR.out.2.step (ba (ba (br w) (.cells #[.int .i64 l.m, .int .i64 l.t, .int .i64 l.ep, .slice a1 n1 c1, .slice a2 n2 c2] 29)) (.cells #[.int .i64 0, .int .i64 0, .int .i64 0, .slice none 0 0, .slice none 0 0] 29)))
  rw [← hw1] at hRR
  rw [← hr, ← hw1, ← hq]
  have h1 : Sp w [blk q #[.int .i64 l.m, .int .i64 l.t, .int .i64 l.ep, .slice a1 n1 c1, .slice a2 n2 c2] 29, blk r #[.int .i64 0, .int .i64 0, .int .i64 0, .slice none 0 0, .slice none 0 0] 29] w1 := by rw [hq, hr, hw1]; exact h1
  have hbq := h1.blk (b := q) (C := #[.int .i64 l.m, .int .i64 l.t, .int .i64 l.ep, .slice a1 n1 c1, .slice a2 n2 c2]) (T := 29) (List.mem_cons_self ..)
  have k3 : w1.cell? ⟨q, 3, none⟩ = some (.slice a1 n1 c1) := hbq.cell 3
  have k4 : w1.cell? ⟨q, 4, none⟩ = some (.slice a2 n2 c2) := hbq.cell 4
  have HX := Lib.hid h1.drew
  have HRR := Lib.hid (And.intro (hRR.1.step (bd1 (br _))) (hRR.2.step (bd1 (br _))))
  clear h1 hw1 hr hq hRR hbq
  go_cut [] (fun wx => ∃ s1 s2 : Value, Sp w [blk q #[.int .i64 l.m, .int .i64 l.t, .int .i64 l.ep, s1, s2] 29, row 67 1 s1 n1 (il l.st), row 3 1 s2 n2 (il l.mr), blk r #[.int .i64 0, .int .i64 0, .int .i64 0, .slice none 0 0, .slice none 0 0] 29] wx)
  case first =>
    go_region_with (first
      | (go_at_call 56; refine (cloneS_calls l.st a1 n1 c1 HL.out.1 (by omega) _ HRR.out.1).mono ?_; rintro e w2 ⟨v', rfl, hown, hb⟩; obtain ⟨sa, sc, rfl, _, _⟩ := App.own_slice hown; have HRR := Lib.hid (And.intro (HRR.out.1.step hb) (HRR.out.2.step hb)); have HX := Lib.hid (Sp.cameRow HX.out hown hb); have hbq := HX.out.blk (b := q) (C := #[.int .i64 l.m, .int .i64 l.t, .int .i64 l.ep, .slice a1 n1 c1, .slice a2 n2 c2]) (T := 29) (by (first | exact List.mem_cons_self .. | exact List.mem_cons_of_mem _ (List.mem_cons_self ..) | exact List.mem_cons_of_mem _ (List.mem_cons_of_mem _ (List.mem_cons_self ..)))); have k3 : w2.cell? ⟨q, 3, none⟩ = some (.slice a1 n1 c1) := hbq.cell 3; have k4 : w2.cell? ⟨q, 4, none⟩ = some (.slice a2 n2 c2) := hbq.cell 4; have k5 : w2.frozen? ⟨q, 3, none⟩ = false := hbq.frozen 3; have k6 : w2.frozen? ⟨q, 4, none⟩ = false := hbq.frozen 4; clear hbq hb hown)
      | (go_at_call 57; refine (cloneI_calls l.mr a2 n2 c2 HL.out.2 (by omega) _ HRR.out.2).mono ?_; rintro e w2 ⟨v', rfl, hown, hb⟩; obtain ⟨sa, sc, rfl, _, _⟩ := App.own_slice hown; have HRR := Lib.hid (And.intro (HRR.out.1.step hb) (HRR.out.2.step hb)); have HX := Lib.hid (Sp.cameRow HX.out hown hb); have hbq := HX.out.blk (b := q) (C := #[.int .i64 l.m, .int .i64 l.t, .int .i64 l.ep, .slice a1 n1 c1, .slice a2 n2 c2]) (T := 29) (by (first | exact List.mem_cons_self .. | exact List.mem_cons_of_mem _ (List.mem_cons_self ..) | exact List.mem_cons_of_mem _ (List.mem_cons_of_mem _ (List.mem_cons_self ..)))); have k3 : w2.cell? ⟨q, 3, none⟩ = some (.slice a1 n1 c1) := hbq.cell 3; have k4 : w2.cell? ⟨q, 4, none⟩ = some (.slice a2 n2 c2) := hbq.cell 4; have k5 : w2.frozen? ⟨q, 3, none⟩ = false := hbq.frozen 3; have k6 : w2.frozen? ⟨q, 4, none⟩ = false := hbq.frozen 4; clear hbq hb hown))
    all_goals go_wp2
    all_goals go_meet
    all_goals (case rel =>
      first
        | exact ⟨_, _, ((HX.out.front 2 rfl).set 3 _).set 4 _⟩
        | exact ⟨_, _, (((HX.out.front 2 rfl).set 3 _).set 4 _).perm (List.Perm.cons _ (List.Perm.swap _ _ _))⟩)
  case rest =>
    obtain ⟨s1, s2, h⟩ := hcut
    obtain ⟨sa, sc, rfl, _, _⟩ := App.own_slice (h.row (v := s1) (n := n1) (T := 67) (List.mem_cons_of_mem _ (List.mem_cons_self ..)))
    obtain ⟨ma, mc, rfl, _, _⟩ := App.own_slice (h.row (v := s2) (n := n2) (T := 3) (List.mem_cons_of_mem _ (List.mem_cons_of_mem _ (List.mem_cons_self ..))))
    obtain ⟨⟨e0, e1, e2, e3, e4⟩, _⟩ := five (h.blk (b := q) (C := #[.int .i64 l.m, .int .i64 l.t, .int .i64 l.ep, .slice sa n1 sc, .slice ma n2 mc]) (T := 29) (List.mem_cons_self ..))
    obtain ⟨⟨r0, r1, r2, r3, r4⟩, y0, y1, y2, y3, y4⟩ := five (h.blk (b := r) (C := #[.int .i64 0, .int .i64 0, .int .i64 0, .slice none 0 0, .slice none 0 0]) (T := 29) (List.mem_cons_of_mem _ (List.mem_cons_of_mem _ (List.mem_cons_of_mem _ (List.mem_cons_self ..)))))
    have h2 := Sp.new5 (v0 := .int .i64 l.m) (v1 := .int .i64 l.t) (v2 := .int .i64 l.ep) (v3 := .slice sa n1 sc) (v4 := .slice ma n2 mc) (h.front 3 rfl)
    have H2 := Lib.hid h2
    clear h h2
    go_wp2
    refine copy_ret (H2.out.blk (List.mem_cons_self ..)) _ _ _ ⟨_, _, rfl, ?_⟩
    exact (H2.out.tail).tail
end Go.Proofs.Ytmpbohbecidkhaa.Lab
