/- The document's member's calls walked: May, Now, Read, Put, Fail. -/
import Derived.Test.YtahdhkhgokggbaaRm
namespace Go.Proofs.Ytahdhkhgokggbaa.Member
open Go.RowKit Go.Proofs.Ytahdhkhgokggbaa.Mem Go.Proofs.Ytahdhkhgokggbaa.Sep
open Go.Proofs.YtahdhkhgokggbaaW.PrintWords hiding bt
set_option linter.unusedVariables false
set_option linter.unusedSimpArgs false

theorem rwrite_info : (Try.prog.info? 146).map (fun i => (i.zero, i.size, i.bytes)) = some (some (.agg #[.int .i64 0, .string ⟨#[]⟩]), 2, 24) := by kernel_rfl
section
variable {w0 w : World} {G : Nat} {m : Mb} {L : List Asn} {n : Nat}
/-- What of a document's member is read. -/
structure Rds (w : World) (G n : Nat) (m : Mb) (a : Option Addr) (c : Nat) (qa : Option Addr) (qc : Nat) : Prop where
  c0 : w.cell? ⟨G, 0, none⟩ = some (.slice a n c)
  c1 : w.cell? ⟨G, 1, none⟩ = some (.slice qa m.q.length qc)
  c2 : w.cell? ⟨G, 2, none⟩ = some (.bool m.dead)
  s : ∀ (k : Nat) s, m.las[k]? = some s → ∃ g, a = some ⟨g, 0, none⟩ ∧ w.cell? ⟨g, k, none⟩ = some (.string s)
  q : ∀ (k : Nat) x, m.q[k]? = some x → ∃ g, qa = some ⟨g, 0, none⟩ ∧ w.cell? ⟨g, k * 2, none⟩ = some (.int .i64 (x.1 : Nat)) ∧ w.cell? ⟨g, k * 2 + 1, none⟩ = some (.string x.2)
theorem rds (h : Sp w0 (rmem G n m :: L) w) : ∃ a c qa qc, Rds w G n m a c qa qc := by
  obtain ⟨ho, ht, vs, vq, h1⟩ := rmOpen h
  obtain ⟨c0, c1, c2, _⟩ := rbox_cells (h1.blk (List.mem_cons_self ..))
  obtain ⟨a, c, rfl, hs⟩ := row_strs (h1.row (v := vs) (n := m.las.length) (xs := strl m.las) (List.mem_cons_of_mem _ (List.mem_cons_self ..)))
  obtain ⟨qa, qc, rfl, hq⟩ := row_wr (h1.row (v := vq) (n := m.q.length) (xs := wcells m.q) (List.mem_cons_of_mem _ (List.mem_cons_of_mem _ (List.mem_cons_self ..))))
  rw [ho.las] at c0
  exact ⟨a, c, qa, qc, c0, c1, c2, hs, hq⟩
theorem rmay_calls (h : Sp w0 (rmem G n m :: L) w) (i : Int) : Calls Try.prog 111 #[.pointer (some ⟨G, 0, none⟩), .int .i64 i] w fun e w' => e = .returned (.int .i64 (m.may i)) ∧ w = w' := by
  obtain ⟨a, c, qa, qc, hr⟩ := rds h
  obtain ⟨ho, _⟩ := rmOk h
  have c0 := hr.c0
  have c2 := hr.c2
  obtain ⟨k, hk⟩ : ∃ k, k = m.may i := ⟨_, rfl⟩
  rw [← hk]
  unfold Mb.may at hk
  rw [ho.now] at hk
  obtain ⟨d, hd⟩ : ∃ d, d = m.dead := ⟨_, rfl⟩
  rw [← hd] at c2 hk
  clear hd h hr ho
  cases d
  · by_cases h1 : i < 0
    · rw [if_neg (by decide), if_pos (.inl h1)] at hk
      subst hk
      have d1 : decide (i < 0) = true := decide_eq_true h1
      go_enter Try.func111, Try.ntmps111
      go_wp2
      go_ret
      exact ⟨rfl, rfl⟩
    · have d1 : decide (i < 0) = false := decide_eq_false h1
      by_cases h2 : (n : Int) ≤ i
      · rw [if_neg (by decide), if_pos (.inr h2)] at hk
        subst hk
        have d2 : decide ((n : Int) ≤ i) = true := decide_eq_true h2
        go_enter Try.func111, Try.ntmps111
        go_wp2
        go_ret
        exact ⟨rfl, rfl⟩
      · rw [if_neg (by decide), if_neg (by omega)] at hk
        subst hk
        have d2 : decide ((n : Int) ≤ i) = false := decide_eq_false h2
        go_enter Try.func111, Try.ntmps111
        go_wp2
        go_ret
        exact ⟨rfl, rfl⟩
  · rw [if_pos rfl] at hk
    subst hk
    go_enter Try.func111, Try.ntmps111
    go_wp2
    go_ret
    exact ⟨rfl, rfl⟩
set_option maxHeartbeats 4000000 in
theorem rnow_calls (h : Sp w0 (rmem G n m :: L) w) (hd : m.dead = false) (hq : m.q.length ≤ 1000000) (j : Nat) (u : ByteArray) (hu : m.now[j]? = some u) :
    Calls Try.prog 42 #[.pointer (some ⟨G, 0, none⟩), .int .i64 (j : Nat)] w fun e w' => e = .returned (.string u) ∧ w = w' := by
  obtain ⟨a, c, qa, qc, hr⟩ := rds h
  obtain ⟨ho, ht⟩ := rmOk h
  have htd := ht hd
  have hj : j < n := by have := (List.getElem?_eq_some_iff.1 hu).1; rw [ho.now] at this; exact this
  have c0 := hr.c0
  have c1 := hr.c1
  have HQ := Lib.hid (And.intro hr.q (And.intro hr.s (And.intro htd (And.intro hu ho))))
  obtain ⟨N, hN⟩ : ∃ N, N = m.q.length := ⟨_, rfl⟩
  rw [← hN] at c1 hq
  have HN := Lib.hid hN
  have i0 : (0 : Int) ≤ (j : Int) := by omega
  have i1 : (j : Int) < (n : Int) := by omega
  clear hr ho ht htd hd hu hN h
  go_enter Try.func42, Try.ntmps42
  go_wp2
  go_loopw [5] (fun x5 wr => ∃ k : Nat, k ≤ N ∧ ((k = 0 ∧ x5 = .int .i64 (-1)) ∨ ∃ k' : Nat, k = k' + 1 ∧ x5 = .int .i64 k') ∧ Hid (∀ (i : Nat) y, k ≤ i → m.q[i]? = some y → y.1 ≠ j) ∧ w = wr) (fun i _ => (intOf i + 1).toNat)
  case atStart => exact ⟨N, Nat.le_refl _, by cases N with | zero => exact .inl ⟨rfl, rfl⟩ | succ k => exact .inr ⟨k, rfl, by go_num⟩, Lib.hid (fun i y hi hy => by have := (List.getElem?_eq_some_iff.1 hy).1; rw [← HN.out] at this; omega), rfl⟩
  case round =>
    obtain ⟨k, hk, ⟨rfl, rfl⟩ | ⟨k, rfl, rfl⟩, HA, rfl⟩ := hrel
    · have hlas : m.las[j]? = some u := by rw [← over_none (fun i y hy => HA.out i y (Nat.zero_le _) hy), ← HQ.out.2.2.1]; exact HQ.out.2.2.2.1
      obtain ⟨g, rfl, hc⟩ := HQ.out.2.1 j u hlas
      clear hlas
      go_wp2
      go_ret
      exact ⟨rfl, rfl⟩
    · have k0 : (0 : Int) ≤ (k : Int) := by omega
      have k1 : (k : Int) < (N : Int) := by omega
      have dk : decide ((0 : Int) ≤ (k : Int)) = true := decide_eq_true k0
      obtain ⟨x, hx⟩ : ∃ x, m.q[k]? = some x := ⟨_, List.getElem?_eq_getElem (by rw [← HN.out]; omega)⟩
      obtain ⟨g, rfl, hp0, hp1⟩ := HQ.out.1 k x hx
      obtain ⟨x1, x2⟩ := x
      dsimp only at hp0 hp1
      have HX := Lib.hid hx
      clear hx
      by_cases e : x1 = j
      · subst e
        have hux : u = x2 := by
          have := over_found HX.out rfl (by rw [HQ.out.2.2.2.2.las]; exact hj) (fun i y hi hy => HA.out i y hi hy)
          rw [← HQ.out.2.2.1, HQ.out.2.2.2.1] at this
          exact Option.some.inj this
        have HU := Lib.hid hux
        clear hux
        go_wp2
        go_ret
        exact ⟨by rw [HU.out]; rfl, rfl⟩
      · have q1 : ((x1 : Int) == (j : Int)) = false := beq_eq_false_iff_ne.2 (by omega)
        have HE := Lib.hid e
        clear e
        go_wp2
        go_roundw
        case measure => simp [intOf]
        case rel => exact ⟨k, by omega, by cases k with | zero => exact .inl ⟨rfl, rfl⟩ | succ k => exact .inr ⟨k, rfl, by go_num⟩, Lib.hid (fun i y hi hy => by
          by_cases e : i = k
          · subst e; rw [HX.out] at hy; cases hy; exact HE.out
          · exact HA.out i y (by omega) hy), trivial⟩
set_option maxHeartbeats 4000000 in
set_option maxRecDepth 100000 in
theorem rread_calls (h : Sp w0 (rmem G n m :: L) w) (hq : m.q.length ≤ 1000000) (i : Int) :
    Calls Try.prog 80 #[.pointer (some ⟨G, 0, none⟩), .int .i64 i] w fun e w' => e = .returned (.tuple #[.string (m.get i), .int .i64 (m.may i)]) ∧ Sp w0 (rmem G n (m.read i) :: L) w' := by
  have HM := Lib.hid (rmay_calls h i)
  by_cases hm : m.may i = 0
  · have hR : m.read i = { m with r := wrap64 (m.r + 1) } := by unfold Mb.read; rw [if_pos hm]
    have hG : m.get i = m.now.getD i.toNat ⟨#[]⟩ := by unfold Mb.get; rw [if_pos hm]
    rw [hm] at HM ⊢
    rw [hR, hG]
    obtain ⟨hd, j, rfl, hj⟩ := m.may_yes i hm
    obtain ⟨ho, ht, vs, vq, h1⟩ := rmOpen h
    obtain ⟨u, hu⟩ : ∃ u, m.now[j]? = some u := ⟨_, List.getElem?_eq_getElem hj⟩
    have hg : m.now.getD (j : Int).toNat ⟨#[]⟩ = u := by rw [Int.toNat_natCast, List.getD_eq_getElem?_getD, hu]; rfl
    rw [hg]
    have hbF := h1.blk (List.mem_cons_self ..)
    obtain ⟨_, _, _, c3, _⟩ := rbox_cells hbF
    have f3 := hbF.frozen 3
    have h2 := (h1.set 3 (.int .i64 (wrap64 (m.r + 1)))).drew
    have h3 : Sp w0 (rmem G n { m with r := wrap64 (m.r + 1) } :: L) _ := rmClose (m := { m with r := wrap64 (m.r + 1) }) ⟨ho.las, ho.now, ho.q⟩ ht h2
    have HNOW := Lib.hid (And.intro (rnow_calls h3 hd hq j u hu) h3)
    clear hm hR hG hd hg hu hbF h1 h2 h3 h ho ht hq
    go_enter Try.func80, Try.ntmps80
    go_wp2_with fail
    refine HM.out.mono ?_
    rintro e w' ⟨rfl, rfl⟩
    go_wp2
    go_region
    all_goals go_wp2_with fail
    all_goals (refine HNOW.out.1.mono ?_; rintro e w3 ⟨rfl, rfl⟩; go_wp2; go_ret2; exact ⟨rfl, HNOW.out.2⟩)
  · have hR : m.read i = m := by unfold Mb.read; rw [if_neg hm]
    have hG : m.get i = ⟨#[]⟩ := by unfold Mb.get; rw [if_neg hm]
    rw [hR, hG]
    obtain ⟨k, hk⟩ : ∃ k, k = m.may i := ⟨_, rfl⟩
    rw [← hk] at HM hm ⊢
    have q1 : (k == 0) = false := beq_eq_false_iff_ne.2 hm
    have q2 : (k != 0) = true := by rw [bne, q1]; rfl
    have HF := Lib.hid h
    clear h hk hR hG
    go_enter Try.func80, Try.ntmps80
    go_wp2_with fail
    refine HM.out.mono ?_
    rintro e w' ⟨rfl, rfl⟩
    go_wp2
    go_ret2
    exact ⟨rfl, HF.out⟩
set_option maxHeartbeats 4000000 in
theorem rfail_calls (h : Sp w0 (rmem G n m :: L) w) :
    Calls Try.prog 84 #[.pointer (some ⟨G, 0, none⟩)] w fun e w' => e = .returned (.tuple #[]) ∧ Sp w0 (rmem G n m.fail :: L) w' := by
  obtain ⟨ho, ht, vs, vq, h1⟩ := rmOpen h
  have hbF := h1.blk (List.mem_cons_self ..)
  obtain ⟨c0, c1, c2, _⟩ := rbox_cells hbF
  have f1 := hbF.frozen 1
  have f2 := hbF.frozen 2
  have h2 := (h1.set 2 (.bool true)).set 1 (.slice none 0 0)
  have h3 := (((h2.front 2 rfl).tail).nil 146 2).back 2
  have HFIN := Lib.hid (rmClose (m := m.fail) (vs := vs) (vq := .slice none 0 0) (Mb.fail_ok ho) (tied_fail m) h3)
  clear h h1 h2 h3 hbF ho ht
  go_enter Try.func84, Try.ntmps84
  go_wp2
  first | go_end0 | refine bodyPost_ret (results_none rfl _ _ _) rfl ?_
  exact ⟨rfl, HFIN.out⟩
end
end Go.Proofs.Ytahdhkhgokggbaa.Member
