/- The document's copy of a label, walked. -/
import Derived.Test.YtbbhcmfkkkjehaaGreatBdNw
import Derived.Test.YtbbhcmfkkkjehaaGreatGlE
namespace Go.Proofs.YtbbhcmfkkkjehaaGreat.Brd
open Go.RowKit Go.Proofs.YtbbhcmfkkkjehaaGreat.Mem Go.Proofs.YtbbhcmfkkkjehaaGreat.Sep Go.Proofs.YtbbhcmfkkkjehaaGreat.Member Go.Proofs.YtbbhcmfkkkjehaaGreat.Bay Go.Proofs.YtbbhcmfkkkjehaaGreat.Lab Go.Proofs.YtbbhcmfkkkjehaaGreat.App Go.Proofs.YtbbhcmfkkkjehaaGreat.B8
open Go.Proofs.YtbbhcmfkkkjehaaGreatW.PrintWords hiding bt
set_option linter.unusedVariables false
set_option linter.unusedSimpArgs false

theorem il_take {Is : List Int} {k : Nat} {x : Int} (h : Is[k]? = some x) : il (Is.take k) ++ [Value.int .i64 x] = il (Is.take (k + 1)) := by
  rw [List.take_add_one, h]; unfold il; rw [List.map_append]; rfl
theorem rcopy_ret {W : World} {b : Nat} {v0 v1 v2 v3 v4 : Value} {T : TypeId} (hb : Blk W b #[v0, v1, v2, v3, v4] T) {Q : Ending → World → Prop} (x0 x1 : Value) (r : List Value) (h : Q (.returned (.agg #[v0, v1, v2, v3, v4])) W) :
    bodyPost Tryz.prog Tryz.f84 Q Exit.ret { tmps := (x0 :: x1 :: .pointer (some ⟨b, 0, none⟩) :: r).toArray, defers := [] } W := by
  obtain ⟨⟨c0, c1, c2, c3, c4⟩, _⟩ := five hb
  exact bodyPost_ret (v := .agg #[v0, v1, v2, v3, v4]) (by simp [results, Tryz.results84, go_sem, *]) rfl h
set_option maxHeartbeats 8000000 in
set_option maxRecDepth 100000 in
theorem rcopied_calls (l : Lb) (a1 : Option Addr) (n1 c1 : Nat) (a2 : Option Addr) (n2 c2 : Nat) (w : World) (h : Got w (.agg #[.int .i64 l.m, .int .i64 l.t, .int .i64 l.ep, .slice a1 n1 c1, .slice a2 n2 c2]) l) :
    Calls Tryz.prog 84 #[.agg #[.int .i64 l.m, .int .i64 l.t, .int .i64 l.ep, .slice a1 n1 c1, .slice a2 n2 c2]] w fun e w' => ∃ s1 s2 : Value, e = .returned (.agg #[.int .i64 l.m, .int .i64 l.t, .int .i64 l.ep, s1, s2]) ∧ Sp w [row 3 1 s1 n1 (il l.st), row 3 1 s2 n2 (il l.mr)] w' := by
  obtain ⟨b1, k1, d1, b2, k2, d2, he, h2, h3, h4, h5, h6, h7⟩ := h
  have e1 : a1 = b1 ∧ n1 = k1 ∧ a2 = b2 ∧ n2 = k2 := by
    unfold lval at he
    injection he with he
    injection he with he
    injection he with _ he
    injection he with _ he
    injection he with _ he
    injection he with he1 he
    injection he with he2 _
    injection he1 with p1 p2 _
    injection he2 with q1 q2 _
    exact ⟨p1, p2, q1, q2⟩
  obtain ⟨rfl, rfl, rfl, rfl⟩ := e1
  have s0 := Sp.newAt (Sp.start w) #[.int .i64 l.m, .int .i64 l.t, .int .i64 l.ep, .slice a1 n1 c1, .slice a2 n2 c2] 71 w.heap.size rfl
  have s1 := (Sp.newAt s0 #[.int .i64 0, .int .i64 0, .int .i64 0, .slice none 0 0, .slice none 0 0] 71 (w.heap.size + 1) (by simp)).front 1 rfl
  have s1 : Sp w [blk w.heap.size #[.int .i64 l.m, .int .i64 l.t, .int .i64 l.ep, .slice a1 n1 c1, .slice a2 n2 c2] 71, blk (w.heap.size + 1) #[.int .i64 0, .int .i64 0, .int .i64 0, .slice none 0 0, .slice none 0 0] 71] _ := s1
  have HX := Lib.hid s1
  have HR := Lib.hid (And.intro h6 h7)
  have HL := Lib.hid (And.intro h2 h3)
  have hb1 := h4
  have hb2 := h5
  clear s0 s1 h6 h7 h2 h3 he h4 h5
  go_enter Tryz.func84, Tryz.ntmps84
  go_upto_region 3 with fail
  obtain ⟨r, hr⟩ : ∃ r, r = w.heap.size + 1 := ⟨_, rfl⟩
  obtain ⟨q, hq⟩ : ∃ q, q = w.heap.size := ⟨_, rfl⟩
  rw [← hr, ← hq] at HX
  rw [← hr, ← hq]
  clear hr hq
  generalize (w.alloc (.cells #[.int .i64 l.m, .int .i64 l.t, .int .i64 l.ep, .slice a1 n1 c1, .slice a2 n2 c2] 71)).alloc (.cells #[.int .i64 0, .int .i64 0, .int .i64 0, .slice none 0 0, .slice none 0 0] 71) = w1 at *
  go_loopw [3, 5] (fun x3 x5 wr => ∃ (k : Nat) (u : Value), k ≤ n1 ∧ x5 = .int .i64 k ∧ u = x3 ∧ Sp w [row 3 1 u k (il (l.st.take k)), blk q #[.int .i64 l.m, .int .i64 l.t, .int .i64 l.ep, .slice a1 n1 c1, .slice a2 n2 c2] 71, blk r #[.int .i64 0, .int .i64 0, .int .i64 0, .slice none 0 0, .slice none 0 0] 71] wr) (fun _ i _ => n1 - (intOf i).toNat)
  case atStart => exact ⟨0, _, Nat.zero_le _, rfl, rfl, HX.out.nil _ 1⟩
  case round =>
    clear HX
    obtain ⟨k, u, hk, rfl, rfl, h2⟩ := hrel
    have q3 := (five (h2.blk (b := q) (C := #[.int .i64 l.m, .int .i64 l.t, .int .i64 l.ep, .slice a1 n1 c1, .slice a2 n2 c2]) (T := 71) (List.mem_cons_of_mem _ (List.mem_cons_self ..)))).1.2.2.2.1
    by_cases hlt : k < n1
    · have dlt : decide ((k : Int) < (n1 : Int)) = true := decide_eq_true (by omega)
      have i0 : (0 : Int) ≤ (k : Int) := by omega
      have i1 : (k : Int) < (n1 : Int) := by omega
      obtain ⟨x, hx⟩ : ∃ x, l.st[k]? = some x := ⟨_, List.getElem?_eq_getElem (by rw [HL.out.1]; exact hlt)⟩
      obtain ⟨p, hp, hc⟩ := (HR.out.1.step h2.bel) k x hx
      subst hp
      have HT := Lib.hid (il_take hx)
      have H2 := Lib.hid h2
      clear h2 hx
      go_wp2_with (at_builtin; refine wpList_app rfl (.tmp 14) (.tmp 20) 31 rfl 3 (.int .i64 0) 1 8 (by kernel_rfl) (by kernel_rfl) rfl (by decide) u k _ rfl H2.out _ _ _ rfl (by first | rfl | simp) rfl ?x1 ?x2 ?x3 ?_)
      case x1 => first | rfl | (intro y hy; simp at hy; subst hy; rfl)
      case x2 => omega
      case x3 => decide
      intro u2 w2 h3
      have h3 : Sp w [row 3 1 u2 (k + 1) (il (l.st.take k) ++ [.int .i64 x]), blk q #[.int .i64 l.m, .int .i64 l.t, .int .i64 l.ep, .slice (some p) n1 c1, .slice a2 n2 c2] 71, blk r #[.int .i64 0, .int .i64 0, .int .i64 0, .slice none 0 0, .slice none 0 0] 71] w2 := h3
      rw [HT.out] at h3
      have H3 := Lib.hid h3
      clear h3 H2 q3 hc
      go_wp2
      go_roundw
      case measure => simp [intOf]; omega
      case rel => exact ⟨k + 1, u2, by omega, by go_num, rfl, H3.out⟩
    · obtain rfl : k = n1 := by omega
      have dlt : decide ((k : Int) < (k : Int)) = false := decide_eq_false (by omega)
      rw [List.take_of_length_le (by rw [HL.out.1]; exact Nat.le_refl _)] at h2
      have H2 := Lib.hid h2
      clear h2
      go_wp2
      go_loopw [4, 6] (fun x4 x6 wr => ∃ (j : Nat) (u2 : Value), j ≤ n2 ∧ x6 = .int .i64 j ∧ u2 = x4 ∧ Sp w [row 3 1 u2 j (il (l.mr.take j)), row 3 1 u k (il l.st), blk q #[.int .i64 l.m, .int .i64 l.t, .int .i64 l.ep, .slice a1 k c1, .slice a2 n2 c2] 71, blk r #[.int .i64 0, .int .i64 0, .int .i64 0, .slice none 0 0, .slice none 0 0] 71] wr) (fun _ i _ => n2 - (intOf i).toNat)
      case atStart => exact ⟨0, _, Nat.zero_le _, rfl, rfl, H2.out.nil _ 1⟩
      case round =>
        clear H2 q3
        obtain ⟨j, u2, hj, rfl, rfl, h2⟩ := hrel
        have q4 := (five (h2.blk (b := q) (C := #[.int .i64 l.m, .int .i64 l.t, .int .i64 l.ep, .slice a1 k c1, .slice a2 n2 c2]) (T := 71) (List.mem_cons_of_mem _ (List.mem_cons_of_mem _ (List.mem_cons_self ..))))).1.2.2.2.2
        by_cases hlt : j < n2
        · have dlt2 : decide ((j : Int) < (n2 : Int)) = true := decide_eq_true (by omega)
          have i0 : (0 : Int) ≤ (j : Int) := by omega
          have i1 : (j : Int) < (n2 : Int) := by omega
          obtain ⟨x, hx⟩ : ∃ x, l.mr[j]? = some x := ⟨_, List.getElem?_eq_getElem (by rw [HL.out.2]; exact hlt)⟩
          obtain ⟨p, hp, hc⟩ := (HR.out.2.step h2.bel) j x hx
          subst hp
          have HT := Lib.hid (il_take hx)
          have H2 := Lib.hid h2
          clear h2 hx
          go_wp2_with (at_builtin; refine wpList_app rfl (.tmp 29) (.tmp 35) 31 rfl 3 (.int .i64 0) 1 8 (by kernel_rfl) (by kernel_rfl) rfl (by decide) u2 j _ rfl H2.out _ _ _ rfl (by first | rfl | simp) rfl ?x1 ?x2 ?x3 ?_)
          case x1 => first | rfl | (intro y hy; simp at hy; subst hy; rfl)
          case x2 => omega
          case x3 => decide
          intro u3 w2 h3
          have h3 : Sp w [row 3 1 u3 (j + 1) (il (l.mr.take j) ++ [.int .i64 x]), row 3 1 u k (il l.st), blk q #[.int .i64 l.m, .int .i64 l.t, .int .i64 l.ep, .slice a1 k c1, .slice (some p) n2 c2] 71, blk r #[.int .i64 0, .int .i64 0, .int .i64 0, .slice none 0 0, .slice none 0 0] 71] w2 := h3
          rw [HT.out] at h3
          have H3 := Lib.hid h3
          clear h3 H2 q4 hc
          go_wp2
          go_roundw
          case measure => simp [intOf]; omega
          case rel => exact ⟨j + 1, u3, by omega, by go_num, rfl, H3.out⟩
        · obtain rfl : j = n2 := by omega
          have dlt2 : decide ((j : Int) < (j : Int)) = false := decide_eq_false (by omega)
          rw [List.take_of_length_le (by rw [HL.out.2]; exact Nat.le_refl _)] at h2
          obtain ⟨sa, sc, rfl, _, _⟩ := App.own_slice (h2.row (v := u) (n := k) (T := 3) (List.mem_cons_of_mem _ (List.mem_cons_self ..)))
          obtain ⟨ma, mc, rfl, _, _⟩ := App.own_slice (h2.row (v := u2) (n := j) (T := 3) (List.mem_cons_self ..))
          have h3 : Sp w [blk q #[.int .i64 l.m, .int .i64 l.t, .int .i64 l.ep, .slice a1 k c1, .slice a2 j c2] 71, row 3 1 (.slice ma j mc) j (il l.mr), row 3 1 (.slice sa k sc) k (il l.st), blk r #[.int .i64 0, .int .i64 0, .int .i64 0, .slice none 0 0, .slice none 0 0] 71] wr := h2.front 2 rfl
          obtain ⟨⟨q0, q1, q2, q3, _⟩, z0, z1, z2, z3, z4⟩ := five (h3.blk (b := q) (C := #[.int .i64 l.m, .int .i64 l.t, .int .i64 l.ep, .slice a1 k c1, .slice a2 j c2]) (T := 71) (List.mem_cons_self ..))
          have hqr : q ≠ r := h3.ne (c := r) (D := #[.int .i64 0, .int .i64 0, .int .i64 0, .slice none 0 0, .slice none 0 0]) (U := 71) (List.mem_cons_of_mem _ (List.mem_cons_of_mem _ (List.mem_cons_self ..)))
          have hrq : r ≠ q := fun e => hqr e.symm
          obtain ⟨⟨r0, r1, r2, r3, r4⟩, y0, y1, y2, y3, y4⟩ := five (h3.blk (b := r) (C := #[.int .i64 0, .int .i64 0, .int .i64 0, .slice none 0 0, .slice none 0 0]) (T := 71) (List.mem_cons_of_mem _ (List.mem_cons_of_mem _ (List.mem_cons_of_mem _ (List.mem_cons_self ..)))))
          have h4 := (h3.set 3 (.slice sa k sc)).set 4 (.slice ma j mc)
          have h5 : Sp w [blk r #[.int .i64 0, .int .i64 0, .int .i64 0, .slice none 0 0, .slice none 0 0] 71, blk q #[.int .i64 l.m, .int .i64 l.t, .int .i64 l.ep, .slice sa k sc, .slice ma j mc] 71, row 3 1 (.slice ma j mc) j (il l.mr), row 3 1 (.slice sa k sc) k (il l.st)] _ := h4.front 3 rfl
          have H6 := Lib.hid (Sp.new5 (v0 := .int .i64 l.m) (v1 := .int .i64 l.t) (v2 := .int .i64 l.ep) (v3 := .slice sa k sc) (v4 := .slice ma j mc) h5)
          clear h2 h3 h4 h5
          go_wp2
          refine rcopy_ret (H6.out.blk (List.mem_cons_self ..)) _ _ _ ?_
          exact ⟨_, _, rfl, H6.out.tail.tail.front 1 rfl⟩
end Go.Proofs.YtbbhcmfkkkjehaaGreat.Brd
