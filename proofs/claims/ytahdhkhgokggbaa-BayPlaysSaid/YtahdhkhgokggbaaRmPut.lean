/- The document's member's Put, Flush, Crash, Rot walked. -/
import Derived.Test.YtahdhkhgokggbaaRmNew
import Derived.Test.YtahdhkhgokggbaaMbRot
namespace Go.Proofs.Ytahdhkhgokggbaa.Member
open Go.RowKit Go.Proofs.Ytahdhkhgokggbaa.Mem Go.Proofs.Ytahdhkhgokggbaa.Sep
open Go.Proofs.YtahdhkhgokggbaaW.PrintWords hiding bt
set_option linter.unusedVariables false
set_option linter.unusedSimpArgs false

theorem row_cell {w : World} {T : TypeId} {size n c : Nat} {a : Option Addr} {xs : List Value} (h : w.ownsRow 0 T size (.slice a n c) n xs) {k : Nat} {v : Value} (hv : xs[k]? = some v) : ∃ g, a = some ⟨g, 0, none⟩ ∧ w.cell? ⟨g, k, none⟩ = some v := by
  rcases h.2 with ⟨h1, h0⟩ | ⟨g, cap, cur, h1, _⟩
  · have := (List.getElem?_eq_some_iff.1 hv).1
    rw [h.1, h0] at this; omega
  · obtain ⟨rfl, _⟩ : a = some ⟨g, 0, none⟩ ∧ c = cap := by simpa using h1
    refine ⟨g, rfl, ?_⟩
    have := h.cells (g := g) rfl _ _ hv; rw [Addr.add_mid, Nat.zero_add] at this; exact this
section
variable {w0 w : World} {G : Nat} {m : Mb} {L : List Asn} {n : Nat}
/-- Opened, the slices written out. -/
theorem rmSlices (h : Sp w0 (rmem G n m :: L) w) : ∃ a c qa qc, Sp w0 (blk G (rbox m (.slice a n c) (.slice qa m.q.length qc)) 82 :: row 9 1 (.slice a n c) n (strl m.las) :: row 146 2 (.slice qa m.q.length qc) m.q.length (wcells m.q) :: L) w := by
  obtain ⟨ho, ht, vs, vq, h1⟩ := rmOpen h
  obtain ⟨a, c, rfl, _⟩ := row_strs (h1.row (v := vs) (n := m.las.length) (xs := strl m.las) (List.mem_cons_of_mem _ (List.mem_cons_self ..)))
  obtain ⟨qa, qc, rfl, _⟩ := row_wr (h1.row (v := vq) (n := m.q.length) (xs := wcells m.q) (List.mem_cons_of_mem _ (List.mem_cons_of_mem _ (List.mem_cons_self ..))))
  rw [ho.las] at h1
  exact ⟨a, c, qa, qc, h1⟩
theorem rmSlicesClose {a qa : Option Addr} {c qc k : Nat} {m' : Mb} (ho : m'.ok n) (ht : m'.tied) (hk : m'.q.length = k) (h : Sp w0 (blk G (rbox m' (.slice a n c) (.slice qa k qc)) 82 :: row 9 1 (.slice a n c) n (strl m'.las) :: row 146 2 (.slice qa k qc) k (wcells m'.q) :: L) w) : Sp w0 (rmem G n m' :: L) w := by
  subst hk
  obtain rfl : m'.las.length = n := ho.las
  exact rmClose ho ht h
set_option maxHeartbeats 4000000 in
set_option maxRecDepth 100000 in
theorem rput_calls (h : Sp w0 (rmem G n m :: L) w) (hq : m.q.length < 1000000) (i : Int) (s : ByteArray) :
    Calls Try.prog 86 #[.pointer (some ⟨G, 0, none⟩), .int .i64 i, .string s] w fun e w' => e = .returned (.int .i64 (m.putE i s)) ∧ Sp w0 (rmem G n (m.put i s) :: L) w' := by
  have HM := Lib.hid (rmay_calls h i)
  by_cases hm : m.may i = 0
  · rw [hm] at HM
    obtain ⟨hd, j, rfl, hj⟩ := m.may_yes i hm
    by_cases hs : s.size = 64
    · have hE : m.putE (j : Nat) s = 0 := by unfold Mb.putE; rw [hm, if_neg (by omega), if_neg (by omega)]
      have hP : m.put (j : Nat) s = { m with now := m.now.set j s, q := m.q ++ [(j, s)], w := wrap64 (m.w + 1) } := by unfold Mb.put; rw [if_pos hE, Int.toNat_natCast]
      have hok2 := Mb.put_ok (rmOk h).1 (j : Nat) s
      have ht2 := Mb.tied.put (rmOk h).2 (j : Nat) s
      rw [hE, hP]
      rw [hP] at hok2 ht2
      obtain ⟨a, c, qa, qc, h1⟩ := rmSlices h
      have hbF := h1.blk (List.mem_cons_self ..)
      obtain ⟨c0, c1, c2, c3, c4, c5, c6⟩ := rbox_cells hbF
      have q1 : ((s.size : Int) == 64) = true := by rw [hs]; rfl
      have q2 : ((s.size : Int) != 64) = false := by rw [hs]; rfl
      have h2 := h1.any (.cells #[.int .i64 (j : Nat), .string s] 146)
      have h3 := h2.front 2 rfl
      have h3 : Sp w0 (row 146 2 (.slice qa m.q.length qc) m.q.length (wcells m.q) :: blk G (rbox m (.slice a n c) (.slice qa m.q.length qc)) 82 :: row 9 1 (.slice a n c) n (strl m.las) :: L) (w.alloc (.cells #[.int .i64 (j : Nat), .string s] 146)) := h3
      have hown := h3.row (List.mem_cons_self ..)
      obtain ⟨i0, hi0, hz0, hz1, hz2⟩ := info_parts rwrite_info
      have HH := Lib.hid (And.intro hok2 (And.intro ht2 (And.intro h3 hs)))
      clear hok2 ht2 h h1 h2 h3 hbF hs hm hd c0 c2 c3 c4 c5 c6 hE hP
      go_enter Try.func86, Try.ntmps86
      go_wp2_with fail
      refine HM.out.mono ?_
      rintro e w' ⟨rfl, rfl⟩
      go_wp2_with (at_builtin; refine wpList_append_own_at _ rfl (.tmp 21) (.tmp 25) 79 rfl 0 146 i0 (.agg #[.int .i64 0, .string ⟨#[]⟩]) 2 24 Try.underlying79 hi0 hz0 hz1 hz2 rfl (by decide) (.slice qa m.q.length qc) m.q.length (wcells m.q) rfl hown ⟨w.heap.size, 0, none⟩ 1 1 [.int .i64 (j : Nat), .string s] rfl rfl ?x1 ?x2 ?x3 ?x4 ?x5 ?_)
      case x1 =>
        intro k y hy
        have hb := Blk.new w #[.int .i64 (j : Nat), .string s] 146
        rw [Addr.add_mid, Nat.zero_add]
        rw [hb.cell]
        simpa using hy
      case x2 => intro y hy; simp at hy; rcases hy with rfl | rfl <;> rfl
      case x3 => unfold maxLen; omega
      case x4 => omega
      case x5 => omega
      intro v' w2 hown2 hgrow hnil hat
      have h4 := HH.out.2.2.1.grow hown2 hgrow (hat.imp id (fun e => e.trans (by simp)))
      obtain ⟨g', c', rfl⟩ := own_succ hown2
      have hbF := h4.blk (b := G) (C := rbox m (.slice a n c) (.slice qa m.q.length qc)) (List.mem_cons_of_mem _ (List.mem_cons_self ..))
      have e1 : w2.cell? ⟨G, 1, none⟩ = some (.slice qa m.q.length qc) := hbF.cell 1
      have e4 : w2.cell? ⟨G, 4, none⟩ = some (.int .i64 m.w) := hbF.cell 4
      have f1 := hbF.frozen 1
      have h5 := h4.setAt 1 rfl 1 (.slice (some ⟨g', 0, none⟩) (m.q.length + 1) c')
      have hbF2 := h5.blk (b := G) (C := (rbox m (.slice a n c) (.slice qa m.q.length qc)).setIfInBounds 1 (.slice (some ⟨g', 0, none⟩) (m.q.length + 1) c')) (List.mem_cons_of_mem _ (List.mem_cons_self ..))
      have g4 : _ = some (Value.int .i64 m.w) := hbF2.cell 4
      have z4 := hbF2.frozen 4
      have h6 := h5.setAt 1 rfl 4 (.int .i64 (wrap64 (m.w + 1)))
      have h7 := (h6.back 2).drew
      rw [← wcells_snoc] at h7
      have HFIN := Lib.hid (rmSlicesClose (m' := { m with now := m.now.set j s, q := m.q ++ [(j, s)], w := wrap64 (m.w + 1) }) (qa := some ⟨g', 0, none⟩) (qc := c') (a := a) (c := c) (k := m.q.length + 1) HH.out.1 HH.out.2.1 (by simp) h7)
      clear h4 h5 h6 h7 hbF hbF2 hown2 hgrow hnil hat hown c1 e4
      go_wp2
      go_region
      all_goals go_wp2
      all_goals go_ret
      all_goals exact ⟨rfl, HFIN.out⟩
    · have hE : m.putE (j : Nat) s = 4 := by unfold Mb.putE; rw [hm, if_neg (by omega), if_pos hs]
      have hP : m.put (j : Nat) s = m := by unfold Mb.put; rw [if_neg (by rw [hE]; decide)]
      rw [hE, hP]
      have q1 : ((s.size : Int) == 64) = false := beq_eq_false_iff_ne.2 (by omega)
      have q2 : ((s.size : Int) != 64) = true := by rw [bne, q1]; rfl
      have HF := Lib.hid h
      clear hE hP h hs hm
      go_enter Try.func86, Try.ntmps86
      go_wp2_with fail
      refine HM.out.mono ?_
      rintro e w' ⟨rfl, rfl⟩
      go_wp2
      go_ret
      exact ⟨rfl, HF.out⟩
  · have hE : m.putE i s = m.may i := by unfold Mb.putE; rw [if_pos hm]
    have hP : m.put i s = m := by unfold Mb.put; rw [if_neg (by rw [hE]; exact hm)]
    rw [hE, hP]
    obtain ⟨k, hk⟩ : ∃ k, k = m.may i := ⟨_, rfl⟩
    rw [← hk] at HM hm ⊢
    have q1 : (k == 0) = false := beq_eq_false_iff_ne.2 hm
    have q2 : (k != 0) = true := by rw [bne, q1]; rfl
    have HF := Lib.hid h
    clear hE hP h hk
    go_enter Try.func86, Try.ntmps86
    go_wp2_with fail
    refine HM.out.mono ?_
    rintro e w' ⟨rfl, rfl⟩
    go_wp2
    go_ret
    exact ⟨rfl, HF.out⟩
theorem over_snoc (q : Wr) (x : Nat × ByteArray) (l : List ByteArray) : over (q ++ [x]) l = (over q l).set x.1 x.2 := by rw [over_app]; rfl
set_option maxHeartbeats 8000000 in
set_option maxRecDepth 100000 in
theorem rflush_calls (h : Sp w0 (rmem G n m :: L) w) (hq : m.q.length ≤ 1000000) :
    Calls Try.prog 81 #[.pointer (some ⟨G, 0, none⟩)] w fun e w' => e = .returned (.int .i64 m.flushE) ∧ Sp w0 (rmem G n m.flush :: L) w' := by
  cases hd : m.dead with
  | true =>
    have hE : m.flushE = 22 := by unfold Mb.flushE; rw [hd]; rfl
    have hP : m.flush = m := by unfold Mb.flush; rw [hd]; rfl
    rw [hE, hP]
    obtain ⟨a, c, qa, qc, hr⟩ := rds h
    have c2 := hr.c2
    rw [hd] at c2
    have HF := Lib.hid h
    clear hE hP h hd hr
    go_enter Try.func81, Try.ntmps81
    go_wp2
    go_ret
    exact ⟨rfl, HF.out⟩
  | false =>
    have hE : m.flushE = 0 := by unfold Mb.flushE; rw [hd]; rfl
    have hP : m.flush = { m with las := m.now, q := [], f := wrap64 (m.f + 1) } := by unfold Mb.flush; rw [hd]; rfl
    rw [hE, hP]
    obtain ⟨ho, ht⟩ := rmOk h
    have htd := ht hd
    obtain ⟨a, c, qa, qc, h1⟩ := rmSlices h
    obtain ⟨c0, c1, c2, _⟩ := rbox_cells (h1.blk (List.mem_cons_self ..))
    rw [hd] at c2
    have H1 := Lib.hid h1
    have HO := Lib.hid (And.intro ho htd)
    obtain ⟨N, hN⟩ : ∃ N, N = m.q.length := ⟨_, rfl⟩
    rw [← hN] at c1 hq
    have HN := Lib.hid hN
    clear hE hP h h1 hd ho ht htd hN
    go_enter Try.func81, Try.ntmps81
    go_wp2
    clear c0 c1 c2
    go_loopw [3] (fun x3 wr => ∃ (k : Nat) (l : List ByteArray), k ≤ N ∧ x3 = .int .i64 k ∧ Sp w0 (blk G (rbox m (.slice a n c) (.slice qa m.q.length qc)) 82 :: row 9 1 (.slice a n c) n (strl l) :: row 146 2 (.slice qa m.q.length qc) m.q.length (wcells m.q) :: L) wr ∧ Hid (l = over (m.q.take k) m.las)) (fun i _ => N - (intOf i).toNat)
    case atStart => exact ⟨0, m.las, Nat.zero_le _, rfl, H1.out, Lib.hid rfl⟩
    case round =>
      obtain ⟨k, l, hk, rfl, h2, HL⟩ := hrel
      have hbF := h2.blk (b := G) (List.mem_cons_self ..)
      obtain ⟨c0, c1, _⟩ := rbox_cells hbF
      rw [← HN.out] at c1
      by_cases hlt : k < N
      · have dlt : decide ((k : Int) < (N : Int)) = true := decide_eq_true (by omega)
        have i1 : (k : Int) < (N : Int) := by omega
        obtain ⟨x, hx⟩ : ∃ x, m.q[k]? = some x := ⟨_, List.getElem?_eq_getElem (by rw [← HN.out]; exact hlt)⟩
        obtain ⟨w1, w2⟩ := wcells_at hx
        have hrq := h2.row (v := .slice qa m.q.length qc) (n := m.q.length) (xs := wcells m.q) (T := 146) (size := 2) (by simp)
        obtain ⟨g, rfl, e0⟩ := row_cell hrq w1
        obtain ⟨g', hg', e1⟩ := row_cell hrq w2
        obtain rfl : g = g' := by simpa using hg'
        have hxn : x.1 < n := HO.out.1.q x (List.mem_of_getElem? hx)
        have hll : l.length = n := by rw [HL.out, over_len]; exact HO.out.1.las
        obtain ⟨u, hu⟩ : ∃ u, l[x.1]? = some u := ⟨_, List.getElem?_eq_getElem (by rw [hll]; exact hxn)⟩
        have hrs := h2.row (v := .slice a n c) (n := n) (xs := strl l) (T := 9) (size := 1) (by simp)
        obtain ⟨gs, rfl, es⟩ := row_cell hrs (strl_at hu)
        have fs := ownsRow_thaw hrs x.1
        have HST : Hid (l.set x.1 x.2 = over (m.q.take (k + 1)) m.las) := Lib.hid (by rw [take_snoc hx, over_snoc, HL.out])
        have h3 := (Sp.rowSet (h2.drew.front 1 rfl) x.1 (.string x.2)).back 1
        rw [strl_set] at h3
        have h3 : Sp w0 (blk G (rbox m (.slice (some ⟨gs, 0, none⟩) n c) (.slice (some ⟨g, 0, none⟩) m.q.length qc)) 82 :: row 9 1 (.slice (some ⟨gs, 0, none⟩) n c) n (strl (l.set x.1 x.2)) :: row 146 2 (.slice (some ⟨g, 0, none⟩) m.q.length qc) m.q.length (wcells m.q) :: L) _ := h3
        obtain ⟨x1, x2⟩ := x
        dsimp only at e0 e1 es fs hxn h3 HST
        have j0 : (0 : Int) ≤ (x1 : Int) := by omega
        have j1 : (x1 : Int) < (n : Int) := by omega
        have H3 := Lib.hid h3
        clear hu hll hrs hrq hg' w1 w2 hx h2 h3 hbF HL H1
        go_upto_region 6 with fail
        go_still_tail 21, (by kernel_rfl)
        change wpList _ _ _ _ _ wr.drew
        go_wp2
        go_roundw
        case measure => simp [intOf]; omega
        case rel => exact ⟨k + 1, _, by omega, by go_num, H3.out, HST⟩
      · obtain rfl : k = N := by omega
        have dlt : decide ((k : Int) < (k : Int)) = false := decide_eq_false (by omega)
        have hl : l = m.now := by rw [HL.out, List.take_of_length_le (by rw [HN.out]; exact Nat.le_refl _)]; exact HO.out.2.symm
        subst hl
        have f1 := hbF.frozen 1
        have h5 := h2.set 1 (.slice none 0 0)
        have hb5 := h5.blk (b := G) (List.mem_cons_self ..)
        have g5 : _ = some (Value.int .i64 m.f) := hb5.cell 5
        have z5 := hb5.frozen 5
        have h6 := (h5.set 5 (.int .i64 (wrap64 (m.f + 1)))).drew
        have h7 := ((((h6.front 2 rfl).tail).nil 146 2).back 2)
        have HFIN := Lib.hid (rmSlicesClose (m' := { m with las := m.now, q := [], f := wrap64 (m.f + 1) }) (qa := none) (qc := 0) (a := a) (c := c) (k := 0) ⟨HO.out.1.now, HO.out.1.now, fun x hx => by simp at hx⟩ (fun _ => rfl) rfl h7)
        clear h2 h5 h6 h7 hbF hb5 HL H1
        go_wp2
        go_region
        all_goals go_wp2
        all_goals go_ret
        all_goals exact ⟨rfl, HFIN.out⟩
theorem lasting_rest (K : List Nat) : ∀ (q : Wr) (k : Nat) (l : List ByteArray), K.length ≤ k / 64 → lasting K k q l = l
  | [], k, l, _ => rfl
  | x :: r, k, l, h => by
    have e : kept K k = false := by
      unfold kept
      rw [List.getD_eq_getElem?_getD, List.getElem?_eq_none h]
      simp
    rw [lasting, e, lasting_rest K r (k + 1) _ (by omega)]; rfl
theorem u64_half (z : Nat) (hz : z < 18446744073709551616) : IntKind.u64.wrap ((z : Int) / 2) = ((z / 2 : Nat) : Int) := by
  rw [wraps_u64 _ (by omega) (by omega)]; omega
theorem half (x i : Nat) : x / 2 ^ i / 2 = x / 2 ^ (i + 1) := by rw [Nat.div_div_eq_div_mul, Nat.pow_succ]
set_option maxHeartbeats 8000000 in
set_option maxRecDepth 100000 in
theorem rcrash_calls (h : Sp w0 (rmem G n m :: L) w) (hq : m.q.length ≤ 1000000) (a : Option Addr) (c : Nat) (K : List Nat) (hKl : K.length ≤ 9223372036854775807) (hK : ∀ L' w', Sp w0 (L' ++ L) w' → U64s w' a K) :
    Calls Try.prog 82 #[.pointer (some ⟨G, 0, none⟩), .slice a K.length c] w fun e w' => e = .returned (.tuple #[]) ∧ Sp w0 (rmem G n (m.crash K) :: L) w' := by
  obtain ⟨len, hlen⟩ : ∃ len, len = K.length := ⟨_, rfl⟩
  have HLEN := Lib.hid hlen
  rw [← hlen] at hKl ⊢
  clear hlen
  cases hd : m.dead with
  | true =>
    have hP : m.crash K = m := by unfold Mb.crash; rw [hd]; rfl
    rw [hP]
    obtain ⟨ra, rc, qa, qc, hr⟩ := rds h
    have c2 := hr.c2
    rw [hd] at c2
    have HF := Lib.hid h
    clear hP h hd hr hK
    go_enter Try.func82, Try.ntmps82
    go_wp2
    first | go_end0 | refine bodyPost_ret (results_none rfl _ _ _) rfl ?_
    exact ⟨rfl, HF.out⟩
  | false =>
    have hP : m.crash K = { m with las := lasting K 0 m.q m.las, now := lasting K 0 m.q m.las, q := [] } := by unfold Mb.crash; rw [hd]; rfl
    rw [hP]
    obtain ⟨ho, ht⟩ := rmOk h
    obtain ⟨ra, rc, qa, qc, h1⟩ := rmSlices h
    obtain ⟨c0, c1, c2, _⟩ := rbox_cells (h1.blk (List.mem_cons_self ..))
    rw [hd] at c2
    have H1 := Lib.hid h1
    have HO := Lib.hid (And.intro ho hK)
    obtain ⟨N, hN⟩ : ∃ N, N = m.q.length := ⟨_, rfl⟩
    rw [← hN] at c1 hq
    have HN := Lib.hid hN
    clear hP h h1 hd ho ht hN hK
    go_enter Try.func82, Try.ntmps82
    go_wp2
    clear c0 c1 c2
    go_loopw [4] (fun x4 wr => ∃ (k : Nat) (l : List ByteArray), k ≤ N ∧ x4 = .int .i64 k ∧ Sp w0 (blk G (rbox m (.slice ra n rc) (.slice qa m.q.length qc)) 82 :: row 9 1 (.slice ra n rc) n (strl l) :: row 146 2 (.slice qa m.q.length qc) m.q.length (wcells m.q) :: L) wr ∧ Hid (lasting K 0 m.q m.las = lasting K k (m.q.drop k) l ∧ l.length = n)) (fun i _ => N - (intOf i).toNat)
    case atStart => exact ⟨0, m.las, Nat.zero_le _, rfl, H1.out, Lib.hid ⟨rfl, HO.out.1.las⟩⟩
    case round =>
      obtain ⟨k, l, hk, rfl, h2, HL⟩ := hrel
      have hbF := h2.blk (b := G) (List.mem_cons_self ..)
      obtain ⟨c0, c1, _⟩ := rbox_cells hbF
      rw [← HN.out] at c1
      have hend : ∀ (hlas : lasting K 0 m.q m.las = l), Sp w0 (rmem G n { m with las := lasting K 0 m.q m.las, now := lasting K 0 m.q m.las, q := [] } :: L) (wr.setCell ⟨G, 1, none⟩ (.slice none 0 0)) := fun hlas => by
        have h5 := h2.set 1 (.slice none 0 0)
        have h7 := ((((h5.front 2 rfl).tail).nil 146 2).back 2)
        rw [hlas]
        exact rmSlicesClose (m' := { m with las := l, now := l, q := [] }) (qa := none) (qc := 0) (a := ra) (c := rc) (k := 0) ⟨HL.out.2, HL.out.2, fun x hx => by simp at hx⟩ (fun _ => rfl) rfl h7
      have f1 := hbF.frozen 1
      by_cases hlt : k < N
      · have dlt : decide ((k : Int) < (N : Int)) = true := decide_eq_true (by omega)
        by_cases hkl : k / 64 < len
        · have dkl : decide ((k : Int) / 64 < (len : Int)) = true := decide_eq_true (by omega)
          have i0 : (0 : Int) ≤ (k : Int) / 64 := by omega
          have i2 : (k : Int) / 64 < (len : Int) := by omega
          have i1 : (k : Int) < (N : Int) := by omega
          obtain ⟨y, hy⟩ : ∃ y, K[k / 64]? = some y := ⟨_, List.getElem?_eq_getElem (by rw [← HLEN.out]; exact hkl)⟩
          obtain ⟨p, rfl, hy1, hy2⟩ := HO.out.2 [_, _, _] wr h2 _ _ hy
          have hkept : kept K k = decide (y / 2 ^ (k % 64) % 2 = 1) := by unfold kept; rw [List.getD_eq_getElem?_getD, hy]; rfl
          have HY := Lib.hid (And.intro hkept hy1)
          have H2 := Lib.hid h2
          clear hy hy1 hkept h2 hend H1
          go_wp2
          go_loopw [5, 6] (fun x5 x6 wx => ∃ i z : Nat, i ≤ k % 64 ∧ x6 = .int .i64 i ∧ x5 = .int .u64 (z : Nat) ∧ Hid (z = y / 2 ^ i ∧ z < 18446744073709551616) ∧ wr = wx) (fun _ i _ => k % 64 - (intOf i).toNat)
          case atStart => exact ⟨0, y, Nat.zero_le _, rfl, rfl, Lib.hid ⟨by simp, HY.out.2⟩, rfl⟩
          case round =>
            obtain ⟨i, z, hi, rfl, rfl, HZ, rfl⟩ := hrel
            by_cases hil : i < k % 64
            · have dil : decide ((i : Int) < (k : Int) % 64) = true := decide_eq_true (by omega)
              go_wp2
              go_roundw
              case measure => simp [intOf]; omega
              case rel => exact ⟨i + 1, z / 2, by omega, by go_num, by rw [u64_half z HZ.out.2], Lib.hid ⟨by rw [← half, HZ.out.1], by have := HZ.out.2; omega⟩, trivial⟩
            · obtain rfl : i = k % 64 := by omega
              have dil : decide (((k % 64 : Nat) : Int) < (k : Int) % 64) = false := decide_eq_false (by omega)
              have dil2 : decide ((k : Int) % 64 < (k : Int) % 64) = false := decide_eq_false (by omega)
              have h2 := H2.out
              obtain ⟨x, hx⟩ : ∃ x, m.q[k]? = some x := ⟨_, List.getElem?_eq_getElem (by rw [← HN.out]; exact hlt)⟩
              have hdrop : m.q.drop k = x :: m.q.drop (k + 1) := by rw [List.drop_eq_getElem_cons (by rw [← HN.out]; exact hlt)]; rw [List.getElem?_eq_getElem (by rw [← HN.out]; exact hlt)] at hx; rw [Option.some.inj hx]
              have hstep : lasting K 0 m.q m.las = lasting K (k + 1) (m.q.drop (k + 1)) (if kept K k then l.set x.1 x.2 else l) := by rw [HL.out.1, hdrop]; rfl
              by_cases hz : z % 2 = 1
              · have z1 : ((z : Int) % 2 == 1) = true := beq_iff_eq.2 (by omega)
                have z2 : ((z : Int).tmod 2 == 1) = true := by rw [Int.tmod_eq_emod_of_nonneg (by omega)]; exact z1
                have z3 : (z : Int) % 2 = 1 := by omega
                have hkt : kept K k = true := by rw [HY.out.1, ← HZ.out.1]; exact decide_eq_true hz
                rw [hkt, if_pos rfl] at hstep
                obtain ⟨w1, w2⟩ := wcells_at hx
                have hrq := h2.row (v := .slice qa m.q.length qc) (n := m.q.length) (xs := wcells m.q) (T := 146) (size := 2) (by simp)
                obtain ⟨g, rfl, e0⟩ := row_cell hrq w1
                obtain ⟨g', hg', e1⟩ := row_cell hrq w2
                obtain rfl : g = g' := by simpa using hg'
                have hxn : x.1 < n := HO.out.1.q x (List.mem_of_getElem? hx)
                obtain ⟨u, hu⟩ : ∃ u, l[x.1]? = some u := ⟨_, List.getElem?_eq_getElem (by rw [HL.out.2]; exact hxn)⟩
                have hrs := h2.row (v := .slice ra n rc) (n := n) (xs := strl l) (T := 9) (size := 1) (by simp)
                obtain ⟨gs, rfl, es⟩ := row_cell hrs (strl_at hu)
                have fs := ownsRow_thaw hrs x.1
                have HST := Lib.hid (And.intro hstep HL.out.2)
                have h3 := (Sp.rowSet (h2.drew.front 1 rfl) x.1 (.string x.2)).back 1
                rw [strl_set] at h3
                have h3 : Sp w0 (blk G (rbox m (.slice (some ⟨gs, 0, none⟩) n rc) (.slice (some ⟨g, 0, none⟩) m.q.length qc)) 82 :: row 9 1 (.slice (some ⟨gs, 0, none⟩) n rc) n (strl (l.set x.1 x.2)) :: row 146 2 (.slice (some ⟨g, 0, none⟩) m.q.length qc) m.q.length (wcells m.q) :: L) _ := h3
                obtain ⟨x1, x2⟩ := x
                dsimp only at e0 e1 es fs hxn h3 HST
                have j0 : (0 : Int) ≤ (x1 : Int) := by omega
                have j1 : (x1 : Int) < (n : Int) := by omega
                have H3 := Lib.hid h3
                clear hu hrs hrq hg' w1 w2 hx h2 h3 hbF hdrop hstep hkt
                go_wp2_with fail
                go_upto_region 10 with fail
                go_still_tail 21, (by kernel_rfl)
                change wpList _ _ _ _ _ wr.drew
                go_wp2
                go_roundw
                case measure => simp [intOf]; omega
                case rel => exact ⟨k + 1, l.set x1 x2, by omega, by go_num, H3.out, Lib.hid ⟨HST.out.1, by rw [List.length_set]; exact HST.out.2⟩⟩
              · have z1 : ((z : Int) % 2 == 1) = false := beq_eq_false_iff_ne.2 (by omega)
                have z2 : ((z : Int).tmod 2 == 1) = false := by rw [Int.tmod_eq_emod_of_nonneg (by omega)]; exact z1
                have z3 : ¬ (z : Int) % 2 = 1 := by omega
                have hkt : kept K k = false := by rw [HY.out.1, ← HZ.out.1]; exact decide_eq_false hz
                rw [hkt] at hstep
                have HST : Hid (lasting K 0 m.q m.las = lasting K (k + 1) (m.q.drop (k + 1)) l) := Lib.hid hstep
                clear hx h2 hbF hdrop hstep hkt
                go_wp2
                go_roundw
                case measure => simp [intOf]; omega
                case rel => exact ⟨k + 1, l, by omega, by go_num, H2.out, Lib.hid ⟨HST.out, HL.out.2⟩⟩
        · have dkl : decide ((k : Int) / 64 < (len : Int)) = false := decide_eq_false (by omega)
          have HE := Lib.hid (hend (by rw [HL.out.1]; exact lasting_rest K _ k l (by rw [← HLEN.out]; omega)))
          clear hend h2 hbF H1 HL
          go_wp2
          first | go_end0 | refine bodyPost_ret (results_none rfl _ _ _) rfl ?_
          exact ⟨rfl, HE.out⟩
      · obtain rfl : k = N := by omega
        have dlt : decide ((k : Int) < (k : Int)) = false := decide_eq_false (by omega)
        have HE := Lib.hid (hend (by rw [HL.out.1, List.drop_eq_nil_of_le (by rw [HN.out]; exact Nat.le_refl _)]; rfl))
        clear hend h2 hbF H1 HL
        go_wp2
        first | go_end0 | refine bodyPost_ret (results_none rfl _ _ _) rfl ?_
        exact ⟨rfl, HE.out⟩
end
end Go.Proofs.Ytahdhkhgokggbaa.Member
