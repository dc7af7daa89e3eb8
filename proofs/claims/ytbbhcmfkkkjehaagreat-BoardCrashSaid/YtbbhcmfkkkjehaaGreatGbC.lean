/- The document's bay walked: New, may, step, Write, Flush, Read, Cut. -/
import Derived.Test.YtbbhcmfkkkjehaaGreatGbB
namespace Go.Proofs.YtbbhcmfkkkjehaaGreat.Bay
open Go.RowKit Go.Proofs.YtbbhcmfkkkjehaaGreat.Mem Go.Proofs.YtbbhcmfkkkjehaaGreat.Sep Go.Proofs.YtbbhcmfkkkjehaaGreat.Member
open Go.Proofs.YtbbhcmfkkkjehaaGreatW.PrintWords hiding bt
set_option linter.unusedVariables false
set_option linter.unusedSimpArgs false

section
variable {w0 w : World} {F n : Nat} {m : Mb} {L : List Asn}
theorem rzput (h : Sp w0 (rmemz F n m :: L) w) (hq : m.q.length < 1000000) (i : Int) (s : ByteArray) :
    Calls Tryz.prog 73 #[.pointer (some ⟨F, 0, none⟩), .int .i64 i, .string s] w fun e w' => e = .returned (.int .i64 (m.putE i s)) ∧ Sp w0 (rmemz F n (m.put i s) :: L) w' := by
  obtain ⟨k, h⟩ := rmemz_open h
  refine (rput_calls h hq i s).mono ?_
  rintro e w' ⟨rfl, h2⟩
  obtain ⟨k', e⟩ := cnt_put (m := m) k i s
  rw [e] at h2
  exact ⟨rfl, rmemz_cnt h2⟩
theorem rzread (h : Sp w0 (rmemz F n m :: L) w) (hq : m.q.length ≤ 1000000) (i : Int) :
    Calls Tryz.prog 132 #[.pointer (some ⟨F, 0, none⟩), .int .i64 i] w fun e w' => e = .returned (.tuple #[.string (m.get i), .int .i64 (m.may i)]) ∧ Sp w0 (rmemz F n m :: L) w' := by
  obtain ⟨k, h⟩ := rmemz_open h
  refine (rread_calls h hq i).mono ?_
  rintro e w' ⟨rfl, h2⟩
  obtain ⟨k', e⟩ := cnt_read (m := m) k i
  rw [e] at h2
  exact ⟨rfl, rmemz_cnt h2⟩
theorem rzflush (h : Sp w0 (rmemz F n m :: L) w) (hq : m.q.length ≤ 1000000) :
    Calls Tryz.prog 131 #[.pointer (some ⟨F, 0, none⟩)] w fun e w' => e = .returned (.int .i64 m.flushE) ∧ Sp w0 (rmemz F n m.flush :: L) w' := by
  obtain ⟨k, h⟩ := rmemz_open h
  refine (rflush_calls h hq).mono ?_
  rintro e w' ⟨rfl, h2⟩
  obtain ⟨k', e⟩ := cnt_flush (m := m) k
  rw [e] at h2
  exact ⟨rfl, rmemz_cnt h2⟩
theorem rzcrash (h : Sp w0 (rmemz F n m :: L) w) (hq : m.q.length ≤ 1000000) (a : Option Addr) (c : Nat) (K : List Nat) (hKl : K.length ≤ 9223372036854775807) (hK : ∀ L' w', Sp w0 (L' ++ L) w' → U64s w' a K) :
    Calls Tryz.prog 109 #[.pointer (some ⟨F, 0, none⟩), .slice a K.length c] w fun e w' => e = .returned (.tuple #[]) ∧ Sp w0 (rmemz F n (m.crash K) :: L) w' := by
  obtain ⟨k, h⟩ := rmemz_open h
  refine (rcrash_calls h hq a c K hKl hK).mono ?_
  rintro e w' ⟨rfl, h2⟩
  rw [cnt_crash] at h2
  exact ⟨rfl, rmemz_cnt h2⟩
theorem rzfail (h : Sp w0 (rmemz F n m :: L) w) :
    Calls Tryz.prog 28 #[.pointer (some ⟨F, 0, none⟩)] w fun e w' => e = .returned (.tuple #[]) ∧ Sp w0 (rmemz F n m.fail :: L) w' := by
  obtain ⟨k, h⟩ := rmemz_open h
  refine (rfail_calls h).mono ?_
  rintro e w' ⟨rfl, h2⟩
  rw [cnt_fail] at h2
  exact ⟨rfl, rmemz_cnt h2⟩
theorem rzreplace (h : Sp w0 (rmemz F n m :: L) w) (hn1 : 1 ≤ n) (hn : n ≤ 256) :
    Calls Tryz.prog 106 #[.pointer (some ⟨F, 0, none⟩)] w fun e w' => e = .returned (.tuple #[]) ∧ Sp w0 (rmemz F n m.replace :: L) w' := by
  obtain ⟨k, h⟩ := rmemz_open h
  refine (rreplace_calls h hn1 hn).mono ?_
  rintro e w' ⟨rfl, h2⟩
  obtain ⟨k', e⟩ := cnt_replace (m := m) k
  rw [e] at h2
  exact ⟨rfl, rmemz_cnt h2⟩
theorem rznow (h : Sp w0 (rmemz F n m :: L) w) (hd : m.dead = false) (hq : m.q.length ≤ 1000000) (j : Nat) (u : ByteArray) (hu : m.now[j]? = some u) :
    Calls Tryz.prog 35 #[.pointer (some ⟨F, 0, none⟩), .int .i64 (j : Nat)] w fun e w' => e = .returned (.string u) ∧ w = w' := by
  obtain ⟨k, h⟩ := rmemz_open h
  exact rnow_calls h hd hq j u hu
theorem rznew (h : Sp w0 L w) (s : Int) :
    Calls Tryz.prog 68 #[.int .i64 s] w fun e w' => ∃ F, e = .returned (.pointer (some ⟨F, 0, none⟩)) ∧ Sp w0 (rmemz F (cap s) (Mb.fresh (cap s)) :: L) w' := by
  refine (rnew_calls h s).mono ?_
  rintro e w' ⟨F, rfl, h2⟩
  exact ⟨F, rfl, rmemz_of h2⟩
theorem rzcells (h : Sp w0 (rmemz F n m :: L) w) : (∃ a c, w.cell? ⟨F, 0, none⟩ = some (.slice a n c)) ∧ w.cell? ⟨F, 2, none⟩ = some (.bool m.dead) := by
  obtain ⟨k, h⟩ := rmemz_open h
  obtain ⟨a, c, qa, qc, hr⟩ := rds h
  exact ⟨⟨a, c, hr.c0⟩, hr.c2⟩
theorem rzok (h : Sp w0 (rmemz F n m :: L) w) : m.ok n := by
  obtain ⟨k, h⟩ := rmemz_open h
  have := (rmOk h).1
  exact ⟨this.las, this.now, this.q⟩
end
section
variable {w0 w : World} {R n : Nat} {ps : List Nat} {b : By} {L : List Asn}
structure Rbds (w : World) (R : Nat) (ps : List Nat) (b : By) (a : Option Addr) (c : Nat) : Prop where
  c0 : w.cell? ⟨R, 0, none⟩ = some (.slice a ps.length c)
  c1 : w.cell? ⟨R, 1, none⟩ = some (.int .i64 b.steps)
  c2 : w.cell? ⟨R, 2, none⟩ = some (.int .i64 b.rest)
  f : ∀ i, w.frozen? ⟨R, i, none⟩ = false
  p : ∀ (k : Nat) p, ps[k]? = some p → ∃ g, a = some ⟨g, 0, none⟩ ∧ w.cell? ⟨g, k, none⟩ = some (.pointer (some ⟨p, 0, none⟩))
  len : ps.length = b.M.length
theorem rbds (h : Sp w0 (rbay R ps n b :: L) w) : ∃ a c, Rbds w R ps b a c := by
  obtain ⟨ho, v, h1⟩ := rbayOpen h
  have hb := h1.blk (List.mem_cons_self ..)
  have hr := h1.row (v := v) (n := ps.length) (xs := ptrs ps) (T := 60) (size := 1) (List.mem_cons_of_mem _ (List.mem_cons_self ..))
  obtain ⟨a, c, rfl⟩ := Member.own_slice hr
  exact ⟨a, c, hb.cell 0, hb.cell 1, hb.cell 2, hb.frozen, fun k p hp => row_cell hr (ptrs_at hp), ho⟩
theorem rbset {b' : By} (h : Sp w0 (rbay R ps n b :: L) w) (i : Nat) (x : Value) (hM : b'.M = b.M) (hx : ∀ v, (rbbox b v).setIfInBounds i x = rbbox b' v) : Sp w0 (rbay R ps n b' :: L) (w.setCell ⟨R, i, none⟩ x) := by
  obtain ⟨ho, v, h1⟩ := rbayOpen h
  have h2 := h1.set i x
  rw [hx, ← hM] at h2
  exact rbayClose (by rw [hM]; exact ho) h2
/-- The document's bay says as much of one as of the other. -/
theorem rbay_as {b' : By} (hM : b'.M = b.M) (hs : b'.steps = b.steps) (hr : b'.rest = b.rest) (h : Sp w0 (rbay R ps n b :: L) w) : Sp w0 (rbay R ps n b' :: L) w := by
  obtain ⟨ho, v, h1⟩ := rbayOpen h
  refine rbayClose (b := b') (v := v) (by rw [hM]; exact ho) ?_
  unfold rbbox at h1 ⊢
  rw [hM, hs, hr]; exact h1
/-- What is left is a number that one more can be taken from. -/
def By.fit (b : By) : Prop := -4611686018427387904 ≤ b.left ∧ b.left ≤ 9223372036854775807
theorem rest_zero (b : By) : (b.rest = 0) = (b.out = true) := by
  unfold By.rest By.out
  cases b.set
  · simp
  · simp; omega
theorem wrap_less {x : Int} (h0 : -4611686018427387904 ≤ x) (h1 : x ≤ 9223372036854775807) : wrap64 (x + -1) = x - 1 := by unfold wrap64; omega
theorem stepE_out {b : By} (hf : b.fit) : b.stepE = if b.out then 21 else 0 := by
  unfold By.stepE By.out
  rw [wrap_less hf.1 hf.2]
  cases b.set
  · simp
  · by_cases h : b.left ≤ 0
    · rw [if_pos ⟨rfl, by omega⟩]; simp [h]
    · rw [if_neg (by simp; omega)]; simp [h]
theorem rbstep_out {b : By} (hf : b.fit) (ho : b.out = true) (h : Sp w0 (rbay R ps n b :: L) w) : Sp w0 (rbay R ps n b.step :: L) w := by
  have hs : b.set = true ∧ b.left ≤ 0 := by unfold By.out at ho; simpa using ho
  have e : b.step = { b with left := b.left - 1 } := by
    unfold By.step
    rw [hs.1, wrap_less hf.1 hf.2]
    simp
    intro h1
    omega
  rw [e]
  refine rbay_as (b := b) rfl rfl ?_ h
  unfold By.rest
  rw [hs.1]
  simp only [if_true]
  have := hs.2
  omega
set_option maxHeartbeats 4000000 in
theorem rbstep_calls (h : Sp w0 (rbay R ps n b :: L) w) (hf : b.fit) (ho : b.out = false) :
    Calls Tryz.prog 72 #[.pointer (some ⟨R, 0, none⟩)] w fun e w' => e = .returned (.tuple #[]) ∧ Sp w0 (rbay R ps n b.step :: L) w' := by
  obtain ⟨a, c, hr⟩ := rbds h
  have c1 := hr.c1
  have c2 := hr.c2
  have f1 := hr.f 1
  have f2 := hr.f 2
  by_cases hs : b.set = true
  · have hl : ¬ b.left ≤ 0 := by unfold By.out at ho; rw [hs] at ho; simpa using ho
    have e : b.step = { b with left := b.left - 1, steps := wrap64 (b.steps + 1) } := by
      unfold By.step
      rw [hs, wrap_less hf.1 hf.2]
      simp
      omega
    have hrest : b.rest = b.left := by unfold By.rest; rw [hs]; simp; omega
    have h2 := rbset (b' := { b with left := b.left - 1 }) h 2 (.int .i64 (b.left - 1)) rfl (fun v => by
      unfold rbbox By.rest
      simp only [hs, if_true]
      have : max 0 (b.left - 1) = b.left - 1 := by omega
      rw [this]; rfl)
    have h3 := rbset (b' := { b with left := b.left - 1, steps := wrap64 (b.steps + 1) }) h2 1 (.int .i64 (wrap64 (b.steps + 1))) rfl (fun v => rfl)
    rw [e]
    rw [hrest] at c2
    obtain ⟨l, hl2⟩ : ∃ l, l = b.left := ⟨_, rfl⟩
    have hw : wrap64 (l - 1) = l - 1 := by have := hf.1; have := hf.2; unfold wrap64; omega
    rw [← hl2] at c2 h3 hl ⊢
    have d0 : decide (0 < l) = true := decide_eq_true (by omega)
    have h0 : 0 < l := by omega
    have H3 := Lib.hid h3
    clear h h2 h3 hr hs e hrest hl2 hf ho hl
    go_enter Tryz.func72, Tryz.ntmps72
    go_wp2
    first | go_end0 | refine bodyPost_ret (results_none rfl _ _ _) rfl ?_
    exact ⟨rfl, H3.out⟩
  · have hs : b.set = false := by cases e : b.set with | true => exact absurd e hs | false => rfl
    have e : b.step = { b with steps := wrap64 (b.steps + 1) } := by unfold By.step; rw [hs]; rfl
    have hrest : b.rest = -1 := by unfold By.rest; rw [hs]; rfl
    have h3 := rbset (b' := { b with steps := wrap64 (b.steps + 1) }) h 1 (.int .i64 (wrap64 (b.steps + 1))) rfl (fun v => rfl)
    rw [e]
    rw [hrest] at c2
    have H3 := Lib.hid h3
    clear h h3 hr hs e hrest hf ho
    go_enter Tryz.func72, Tryz.ntmps72
    go_wp2
    first | go_end0 | refine bodyPost_ret (results_none rfl _ _ _) rfl ?_
    exact ⟨rfl, H3.out⟩
def By.mayE (b : By) (i : Int) : Int := if b.thereE i ≠ 0 then 11 else if b.out then 21 else 0
theorem rbmay_calls (h : Sp w0 (rbay R ps n b :: L) w) (i : Int) :
    Calls Tryz.prog 71 #[.pointer (some ⟨R, 0, none⟩), .int .i64 i] w fun e w' => e = .returned (.int .i64 (b.mayE i)) ∧ w = w' := by
  obtain ⟨a, c, hr⟩ := rbds h
  have c0 := hr.c0
  have c2 := hr.c2
  rw [hr.len] at c0
  have hz := rest_zero b
  unfold By.mayE By.thereE
  obtain ⟨N, hN⟩ : ∃ N, N = b.M.length := ⟨_, rfl⟩
  obtain ⟨o, ho⟩ : ∃ o, o = b.out := ⟨_, rfl⟩
  obtain ⟨r, hrr⟩ : ∃ r, r = b.rest := ⟨_, rfl⟩
  rw [← hN] at c0 ⊢
  rw [← hrr] at c2 hz
  rw [← ho] at hz ⊢
  clear h hr hN ho hrr
  by_cases h1 : i < 0
  · rw [if_pos (by rw [if_neg (by omega)]; decide)]
    have d1 : decide (i < 0) = true := decide_eq_true h1
    clear hz
    go_enter Tryz.func71, Tryz.ntmps71
    go_wp2
    go_ret
    exact ⟨rfl, rfl⟩
  · have d1 : decide (i < 0) = false := decide_eq_false h1
    by_cases h2 : (N : Int) ≤ i
    · rw [if_pos (by rw [if_neg (by omega)]; decide)]
      have d2 : decide ((N : Int) ≤ i) = true := decide_eq_true h2
      clear hz
      go_enter Tryz.func71, Tryz.ntmps71
      go_wp2
      go_ret
      exact ⟨rfl, rfl⟩
    · rw [if_neg (by rw [if_pos (by omega)]; decide)]
      have d2 : decide ((N : Int) ≤ i) = false := decide_eq_false h2
      cases o
      · have q : (r == 0) = false := beq_eq_false_iff_ne.2 (by simpa using hz)
        clear hz
        go_enter Tryz.func71, Tryz.ntmps71
        go_wp2
        go_ret
        exact ⟨rfl, rfl⟩
      · have q : r = 0 := by simpa using hz
        subst q
        clear hz
        go_enter Tryz.func71, Tryz.ntmps71
        go_wp2
        go_ret
        exact ⟨rfl, rfl⟩
set_option maxHeartbeats 4000000 in
theorem rbcut_calls (h : Sp w0 (rbay R ps n b :: L) w) (k : Int) :
    Calls Tryz.prog 89 #[.pointer (some ⟨R, 0, none⟩), .int .i64 k] w fun e w' => e = .returned (.tuple #[]) ∧ Sp w0 (rbay R ps n (b.cut k) :: L) w' := by
  obtain ⟨a, c, hr⟩ := rbds h
  have c2 := hr.c2
  have f2 := hr.f 2
  have h2 := rbset (b' := b.cut k) h 2 (.int .i64 (max 0 k)) rfl (fun v => by
    unfold rbbox By.rest By.cut
    simp only [if_true]
    have : max 0 (max 0 k) = max 0 k := by omega
    rw [this]; rfl)
  clear h hr
  by_cases hk : k < 0
  · have e : max 0 k = 0 := by omega
    rw [e] at h2
    have H2 := Lib.hid h2
    have d0 : decide (k < 0) = true := decide_eq_true hk
    clear h2 e
    go_enter Tryz.func89, Tryz.ntmps89
    go_wp2
    first | go_end0 | refine bodyPost_ret (results_none rfl _ _ _) rfl ?_
    exact ⟨rfl, H2.out⟩
  · have e : max 0 k = k := by omega
    rw [e] at h2
    have H2 := Lib.hid h2
    have d0 : decide (k < 0) = false := decide_eq_false hk
    clear h2 e
    go_enter Tryz.func89, Tryz.ntmps89
    go_wp2
    first | go_end0 | refine bodyPost_ret (results_none rfl _ _ _) rfl ?_
    exact ⟨rfl, H2.out⟩
theorem mayE_in {b : By} {i : Int} (h : b.mayE i = 0) : b.thereE i = 0 ∧ b.out = false := by
  unfold By.mayE at h
  split at h
  · omega
  · rename_i ht
    split at h
    · omega
    · rename_i ho
      exact ⟨by omega, by simpa using ho⟩
set_option maxHeartbeats 4000000 in
theorem rbwrite_calls (h : Sp w0 (rbay R ps n b :: L) w) (hf : b.fit) (hq : ∀ m ∈ b.M, m.q.length < 1000000) (i j : Int) (s : ByteArray) :
    Calls Tryz.prog 26 #[.pointer (some ⟨R, 0, none⟩), .int .i64 i, .int .i64 j, .string s] w fun e w' => e = .returned (.int .i64 (b.writeE i j s)) ∧ Sp w0 (rbay R ps n (b.write i j s) :: L) w' := by
  have HM := Lib.hid (rbmay_calls h i)
  have hso := stepE_out hf
  by_cases hm0 : b.mayE i = 0
  · obtain ⟨ht, ho⟩ := mayE_in hm0
    obtain ⟨i, rfl, hi⟩ := there_in ht
    rw [ho] at hso
    have hso : b.stepE = 0 := hso
    obtain ⟨a, c, hr⟩ := rbds h
    obtain ⟨p, hp⟩ : ∃ p, ps[i]? = some p := ⟨_, List.getElem?_eq_getElem (by rw [hr.len]; exact hi)⟩
    obtain ⟨m, hm⟩ : ∃ m, b.M[i]? = some m := ⟨_, List.getElem?_eq_getElem hi⟩
    have hE : b.writeE i j s = m.putE j s := by unfold By.writeE; rw [if_neg (by rw [ht]; simp), if_neg (by rw [hso]; simp), Int.toNat_natCast, at_eq hm]
    have hW : b.write i j s = b.step.on i (m.put j s) := by unfold By.write; rw [if_neg (by rw [ht]; simp), if_neg (by rw [hso]; simp), Int.toNat_natCast, at_eq hm]
    rw [hE, hW]
    rw [hm0] at HM
    have HS := Lib.hid (rbstep_calls h hf ho)
    have HP := Lib.hid (And.intro hp (And.intro hm (hq m (List.mem_of_getElem? hm))))
    clear h hE hW hso ht ho hi hr hp hm hq hm0
    go_enter Tryz.func26, Tryz.ntmps26
    go_wp2_with fail
    refine HM.out.mono ?_
    rintro e w' ⟨rfl, rfl⟩
    go_wp2_with fail
    refine HS.out.mono ?_
    rintro e w2 ⟨rfl, h2⟩
    obtain ⟨a, c, hr⟩ := rbds h2
    have c0 := hr.c0
    obtain ⟨g, rfl, hc⟩ := hr.p i p HP.out.1
    have hlt := (List.getElem?_eq_some_iff.1 HP.out.1).1
    obtain ⟨N, hN⟩ : ∃ N, N = ps.length := ⟨_, rfl⟩
    rw [← hN] at c0 hlt
    have i0 : (0 : Int) ≤ (i : Int) := by omega
    have i1 : (i : Int) < (N : Int) := by omega
    obtain ⟨X, h3, hback⟩ := rbay_member h2 HP.out.1 (by rw [step_M]; exact HP.out.2.1)
    have HZ := Lib.hid (And.intro (rzput h3 HP.out.2.2 j s) hback)
    clear h2 h3 hback hr hN
    go_wp2_with fail
    refine HZ.out.1.mono ?_
    rintro e w3 ⟨rfl, h4⟩
    have H4 := Lib.hid (HZ.out.2 _ _ h4)
    clear h4
    go_wp2
    go_ret
    exact ⟨rfl, H4.out⟩
  · have hfin : b.writeE i j s = b.mayE i ∧ Sp w0 (rbay R ps n (b.write i j s) :: L) w := by
      by_cases ht : b.thereE i = 0
      · have ho : b.out = true := by
          cases e : b.out with
          | true => rfl
          | false => exact absurd (by unfold By.mayE; rw [if_neg (by rw [ht]; simp), e]; rfl) hm0
        rw [ho] at hso
        have hso : b.stepE = 21 := hso
        refine ⟨?_, ?_⟩
        · simp [By.writeE, By.mayE, ht, hso, ho]
        · have e : b.write i j s = b.step := by unfold By.write; rw [if_neg (by rw [ht]; simp), if_pos (by rw [hso]; decide)]
          rw [e]
          exact rbstep_out hf ho h
      · refine ⟨?_, ?_⟩
        · unfold By.writeE By.mayE; rw [if_pos ht, if_pos ht]
        · have e : b.write i j s = b := by unfold By.write; rw [if_pos ht]
          rw [e]; exact h
    rw [hfin.1]
    have HF := Lib.hid hfin.2
    obtain ⟨k, hk⟩ : ∃ k, k = b.mayE i := ⟨_, rfl⟩
    rw [← hk] at HM hm0 ⊢
    have q1 : (k == 0) = false := beq_eq_false_iff_ne.2 hm0
    have q2 : (k != 0) = true := by rw [bne, q1]; rfl
    clear h hfin hso hk hq hm0
    go_enter Tryz.func26, Tryz.ntmps26
    go_wp2_with fail
    refine HM.out.mono ?_
    rintro e w' ⟨rfl, rfl⟩
    go_wp2
    go_ret
    exact ⟨rfl, HF.out⟩
set_option maxHeartbeats 4000000 in
theorem rbflush_calls (h : Sp w0 (rbay R ps n b :: L) w) (hf : b.fit) (hq : ∀ m ∈ b.M, m.q.length < 1000000) (i : Int) :
    Calls Tryz.prog 81 #[.pointer (some ⟨R, 0, none⟩), .int .i64 i] w fun e w' => e = .returned (.int .i64 (b.flushE i)) ∧ Sp w0 (rbay R ps n (b.flush i) :: L) w' := by
  have HM := Lib.hid (rbmay_calls h i)
  have hso := stepE_out hf
  by_cases hm0 : b.mayE i = 0
  · obtain ⟨ht, ho⟩ := mayE_in hm0
    obtain ⟨i, rfl, hi⟩ := there_in ht
    rw [ho] at hso
    have hso : b.stepE = 0 := hso
    obtain ⟨a, c, hr⟩ := rbds h
    obtain ⟨p, hp⟩ : ∃ p, ps[i]? = some p := ⟨_, List.getElem?_eq_getElem (by rw [hr.len]; exact hi)⟩
    obtain ⟨m, hm⟩ : ∃ m, b.M[i]? = some m := ⟨_, List.getElem?_eq_getElem hi⟩
    have hE : b.flushE i = m.flushE := by unfold By.flushE; rw [if_neg (by rw [ht]; simp), if_neg (by rw [hso]; simp), Int.toNat_natCast, at_eq hm]
    have hW : b.flush i = b.step.on i m.flush := by unfold By.flush; rw [if_neg (by rw [ht]; simp), if_neg (by rw [hso]; simp), Int.toNat_natCast, at_eq hm]
    rw [hE, hW]
    rw [hm0] at HM
    have HS := Lib.hid (rbstep_calls h hf ho)
    have HP := Lib.hid (And.intro hp (And.intro hm (Nat.le_of_lt (hq m (List.mem_of_getElem? hm)))))
    clear h hE hW hso ht ho hi hr hp hm hq hm0
    go_enter Tryz.func81, Tryz.ntmps81
    go_wp2_with fail
    refine HM.out.mono ?_
    rintro e w' ⟨rfl, rfl⟩
    go_wp2_with fail
    refine HS.out.mono ?_
    rintro e w2 ⟨rfl, h2⟩
    obtain ⟨a, c, hr⟩ := rbds h2
    have c0 := hr.c0
    obtain ⟨g, rfl, hc⟩ := hr.p i p HP.out.1
    have hlt := (List.getElem?_eq_some_iff.1 HP.out.1).1
    obtain ⟨N, hN⟩ : ∃ N, N = ps.length := ⟨_, rfl⟩
    rw [← hN] at c0 hlt
    have i0 : (0 : Int) ≤ (i : Int) := by omega
    have i1 : (i : Int) < (N : Int) := by omega
    obtain ⟨X, h3, hback⟩ := rbay_member h2 HP.out.1 (by rw [step_M]; exact HP.out.2.1)
    have HZ := Lib.hid (And.intro (rzflush h3 HP.out.2.2) hback)
    clear h2 h3 hback hr hN
    go_wp2_with fail
    refine HZ.out.1.mono ?_
    rintro e w3 ⟨rfl, h4⟩
    have H4 := Lib.hid (HZ.out.2 _ _ h4)
    clear h4
    go_wp2
    go_ret
    exact ⟨rfl, H4.out⟩
  · have hfin : b.flushE i = b.mayE i ∧ Sp w0 (rbay R ps n (b.flush i) :: L) w := by
      by_cases ht : b.thereE i = 0
      · have ho : b.out = true := by
          cases e : b.out with
          | true => rfl
          | false => exact absurd (by unfold By.mayE; rw [if_neg (by rw [ht]; simp), e]; rfl) hm0
        rw [ho] at hso
        have hso : b.stepE = 21 := hso
        refine ⟨?_, ?_⟩
        · simp [By.flushE, By.mayE, ht, hso, ho]
        · have e : b.flush i = b.step := by unfold By.flush; rw [if_neg (by rw [ht]; simp), if_pos (by rw [hso]; decide)]
          rw [e]
          exact rbstep_out hf ho h
      · refine ⟨?_, ?_⟩
        · unfold By.flushE By.mayE; rw [if_pos ht, if_pos ht]
        · have e : b.flush i = b := by unfold By.flush; rw [if_pos ht]
          rw [e]; exact h
    rw [hfin.1]
    have HF := Lib.hid hfin.2
    obtain ⟨k, hk⟩ : ∃ k, k = b.mayE i := ⟨_, rfl⟩
    rw [← hk] at HM hm0 ⊢
    have q1 : (k == 0) = false := beq_eq_false_iff_ne.2 hm0
    have q2 : (k != 0) = true := by rw [bne, q1]; rfl
    clear h hfin hso hk hq hm0
    go_enter Tryz.func81, Tryz.ntmps81
    go_wp2_with fail
    refine HM.out.mono ?_
    rintro e w' ⟨rfl, rfl⟩
    go_wp2
    go_ret
    exact ⟨rfl, HF.out⟩
set_option maxHeartbeats 4000000 in
theorem rbread_calls (h : Sp w0 (rbay R ps n b :: L) w) (hq : ∀ m ∈ b.M, m.q.length < 1000000) (i j : Int) :
    Calls Tryz.prog 82 #[.pointer (some ⟨R, 0, none⟩), .int .i64 i, .int .i64 j] w fun e w' => e = .returned (.tuple #[.string (b.get i j), .int .i64 (b.readE i j)]) ∧ Sp w0 (rbay R ps n b :: L) w' := by
  have HM := Lib.hid (rbmay_calls h i)
  by_cases hm0 : b.mayE i = 0
  · obtain ⟨ht, ho⟩ := mayE_in hm0
    obtain ⟨i, rfl, hi⟩ := there_in ht
    obtain ⟨a, c, hr⟩ := rbds h
    obtain ⟨p, hp⟩ : ∃ p, ps[i]? = some p := ⟨_, List.getElem?_eq_getElem (by rw [hr.len]; exact hi)⟩
    obtain ⟨m, hm⟩ : ∃ m, b.M[i]? = some m := ⟨_, List.getElem?_eq_getElem hi⟩
    have hE : b.readE i j = m.may j := by unfold By.readE; rw [if_neg (by rw [ht]; simp), ho, Int.toNat_natCast, at_eq hm]; rfl
    have hW : b.get i j = m.get j := by unfold By.get; rw [if_neg (by rw [ht, ho]; simp), Int.toNat_natCast, at_eq hm]
    rw [hE, hW]
    rw [hm0] at HM
    have c0 := hr.c0
    obtain ⟨g, rfl, hc⟩ := hr.p i p hp
    have hlt := (List.getElem?_eq_some_iff.1 hp).1
    obtain ⟨N, hN⟩ : ∃ N, N = ps.length := ⟨_, rfl⟩
    rw [← hN] at c0 hlt
    have i0 : (0 : Int) ≤ (i : Int) := by omega
    have i1 : (i : Int) < (N : Int) := by omega
    obtain ⟨X, h3, hback⟩ := rbay_member h hp hm
    have hon : b.on i m = b := by unfold By.on; rw [set_self hm]
    have hbk : ∀ w', Sp w0 (rmemz p n m :: (X ++ L)) w' → Sp w0 (rbay R ps n b :: L) w' := fun w' h5 => by have h6 := hback w' m h5; rw [hon] at h6; exact h6
    have HZ := Lib.hid (And.intro (rzread h3 (Nat.le_of_lt (hq m (List.mem_of_getElem? hm))) j) hbk)
    clear h hE hW ht ho hi hr hp hm hq hm0 h3 hback hon hbk hN
    go_enter Tryz.func82, Tryz.ntmps82
    go_wp2_with fail
    refine HM.out.mono ?_
    rintro e w' ⟨rfl, rfl⟩
    go_wp2_with fail
    refine HZ.out.1.mono ?_
    rintro e w3 ⟨rfl, h4⟩
    have H4 := Lib.hid (HZ.out.2 _ h4)
    clear h4
    go_wp2
    go_ret2
    exact ⟨rfl, H4.out⟩
  · have hfin : b.readE i j = b.mayE i ∧ b.get i j = ⟨#[]⟩ := by
      by_cases ht : b.thereE i = 0
      · have ho : b.out = true := by
          cases e : b.out with
          | true => rfl
          | false => exact absurd (by unfold By.mayE; rw [if_neg (by rw [ht]; simp), e]; rfl) hm0
        refine ⟨?_, ?_⟩
        · simp [By.readE, By.mayE, ht, ho]
        · unfold By.get; rw [if_pos (.inr ho)]
      · refine ⟨?_, ?_⟩
        · unfold By.readE By.mayE; rw [if_pos ht, if_pos ht]
        · unfold By.get; rw [if_pos (.inl ht)]
    rw [hfin.1, hfin.2]
    have HF := Lib.hid h
    obtain ⟨k, hk⟩ : ∃ k, k = b.mayE i := ⟨_, rfl⟩
    rw [← hk] at HM hm0 ⊢
    have q1 : (k == 0) = false := beq_eq_false_iff_ne.2 hm0
    have q2 : (k != 0) = true := by rw [bne, q1]; rfl
    clear h hfin hk hq hm0
    go_enter Tryz.func82, Tryz.ntmps82
    go_wp2_with fail
    refine HM.out.mono ?_
    rintro e w' ⟨rfl, rfl⟩
    go_wp2
    go_ret2
    exact ⟨rfl, HF.out⟩
end
end Go.Proofs.YtbbhcmfkkkjehaaGreat.Bay
/- The document's bay's New, Live, Crash walked. -/
namespace Go.Proofs.YtbbhcmfkkkjehaaGreat.Bay
open Go.RowKit Go.Proofs.YtbbhcmfkkkjehaaGreat.Mem Go.Proofs.YtbbhcmfkkkjehaaGreat.Sep Go.Proofs.YtbbhcmfkkkjehaaGreat.Member
open Go.Proofs.YtbbhcmfkkkjehaaGreatW.PrintWords hiding bt
set_option linter.unusedVariables false
set_option linter.unusedSimpArgs false

section
variable {w0 w : World} {L : List Asn}
set_option maxHeartbeats 8000000 in
set_option maxRecDepth 100000 in
theorem rbnew_calls (h : Sp w0 L w) (k s : Int) :
    Calls Tryz.prog 24 #[.int .i64 k, .int .i64 s] w fun e w' => ∃ B ps, e = .returned (.pointer (some ⟨B, 0, none⟩)) ∧ Sp w0 (rbay B ps (cap s) (By.fresh (caps k) (cap s)) :: L) w' := by
  have hcaps := caps_le k
  have hce := caps_eq k
  obtain ⟨N, hN⟩ : ∃ N, N = caps k := ⟨_, rfl⟩
  rw [← hN] at hcaps hce ⊢
  have HE := Lib.hid hce
  obtain ⟨i0, hi0, hz0, hz1, hz2⟩ := info_parts rptr_info
  have HNEW := Lib.hid (fun (L : List Asn) w1 (h : Sp w0 L w1) => rznew h s)
  obtain ⟨n, hn⟩ : ∃ n, n = cap s := ⟨_, rfl⟩
  rw [← hn] at HNEW ⊢
  have h1 := (h.nil 60 1).new #[.slice none 0 0, .int .i64 0, .int .i64 (-1)] 63
  have H1 := Lib.hid h1
  clear h h1 hn hN hce
  go_enter Tryz.func24, Tryz.ntmps24
  go_upto_if 9 with fail
  go_cut [0] (fun x0 wx => x0 = .int .i64 (max 1 k) ∧ w = wx)
  case first =>
    by_cases hk : k < 1
    · have d1 : decide (k < 1) = true := decide_eq_true hk
      go_wp2
      go_meet
      case rel => exact ⟨by rw [show max 1 k = 1 by omega], rfl⟩
    · have d1 : decide (k < 1) = false := decide_eq_false hk
      go_wp2
      go_meet
      case rel => exact ⟨by rw [show max 1 k = k by omega], rfl⟩
  case rest =>
  obtain ⟨rfl, rfl⟩ := hcut
  obtain ⟨k1, hk1⟩ : ∃ k1, k1 = max 1 k := ⟨_, rfl⟩
  rw [← hk1]
  have HE2 : Hid ((32 < k1 ∧ N = 32) ∨ (¬ 32 < k1 ∧ k1 = N)) := Lib.hid (by have := HE.out; omega)
  clear hk1
  go_upto_if 11 with fail
  go_cut [0] (fun x0 wx => x0 = .int .i64 (N : Nat) ∧ w = wx)
  case first =>
    rcases HE2.out with ⟨a, b⟩ | ⟨a, b⟩
    · have d1 : decide (32 < k1) = true := decide_eq_true a
      have HB := Lib.hid b
      clear b
      go_wp2
      go_meet
      case rel => exact ⟨by rw [HB.out]; rfl, rfl⟩
    · have d1 : decide (32 < k1) = false := decide_eq_false a
      have HB := Lib.hid b
      clear b
      go_wp2
      go_meet
      case rel => exact ⟨by rw [HB.out], rfl⟩
  case rest =>
  obtain ⟨rfl, rfl⟩ := hcut
  clear HE HE2
  go_wp2
  have h1 := H1.out
  obtain ⟨B, hB⟩ : ∃ B, B = w.heap.size := ⟨_, rfl⟩
  rw [← hB] at h1 ⊢
  generalize w.alloc (.cells #[.slice none 0 0, .int .i64 0, .int .i64 (-1)] 63) = w1 at h1 ⊢
  clear hB H1
  go_loopw [6] (fun x6 wr => ∃ (j : Nat) (ps : List Nat) (v : Value), j ≤ N ∧ x6 = .int .i64 j ∧ ps.length = j ∧ Sp w0 (blk B (rbbox b0 v) 63 :: row 60 1 v j (ptrs ps) :: (rmems n ps (List.replicate j (Mb.fresh n)) ++ L)) wr) (fun i _ => N - (intOf i).toNat)
  case atStart => exact ⟨0, [], .slice none 0 0, Nat.zero_le _, rfl, rfl, h1⟩
  case round =>
    clear h1
    obtain ⟨j, ps, v, hj, rfl, hps, h2⟩ := hrel
    obtain ⟨va, vc, rfl⟩ := Member.own_slice (h2.row (v := v) (n := j) (xs := ptrs ps) (T := 60) (size := 1) (List.mem_cons_of_mem _ (List.mem_cons_self ..)))
    have HP := Lib.hid hps
    clear hps
    by_cases hlt : j < N
    · have dlt : decide ((j : Int) < (N : Int)) = true := decide_eq_true (by omega)
      have hj32 : j ≤ 32 := by omega
      have HN2 := Lib.hid (HNEW.out _ _ h2)
      clear h2
      go_wp2_with fail
      refine HN2.out.mono ?_
      rintro e w2 ⟨F, rfl, h3⟩
      have hb := h3.blk (b := B) (C := rbbox b0 (.slice va j vc)) (T := 63) (List.mem_cons_of_mem _ (List.mem_cons_self ..))
      have c0 : _ = some (Value.slice va j vc) := hb.cell 0
      have h4 := h3.any (.cells #[.pointer (some ⟨F, 0, none⟩)] 60)
      have hown := h4.row (v := .slice va j vc) (n := j) (xs := ptrs ps) (T := 60) (size := 1) (List.mem_cons_of_mem _ (List.mem_cons_of_mem _ (List.mem_cons_self ..)))
      have H4 := Lib.hid h4
      clear h3 h4 hb HN2
      go_wp2_with (at_builtin; refine wpList_append_own_at _ rfl (.tmp 25) (.tmp 27) 61 rfl 0 60 i0 (.pointer none) 1 8 Tryz.underlying61 hi0 hz0 hz1 hz2 rfl (by decide) (.slice va j vc) j (ptrs ps) rfl hown ⟨w2.heap.size, 0, none⟩ 1 1 [.pointer (some ⟨F, 0, none⟩)] rfl rfl ?x1 ?x2 ?x3 ?x4 ?x5 ?_)
      case x1 =>
        intro t y hy
        have hb := Blk.new w2 #[.pointer (some ⟨F, 0, none⟩)] 60
        rw [Addr.add_mid, Nat.zero_add, hb.cell]
        simpa using hy
      case x2 => intro y hy; simp at hy; subst hy; rfl
      case x3 => unfold maxLen; omega
      case x4 => omega
      case x5 => omega
      intro v' w5 hown2 hgrow hnil hat
      have HG := Sp.grow (H4.out.front 2 rfl) hown2 hgrow (hat.imp id (fun e => e.trans (by simp)))
      obtain ⟨g, cap1, rfl⟩ := own_succ hown2
      have hb5 := HG.blk (b := B) (C := rbbox b0 (.slice va j vc)) (T := 63) (List.mem_cons_of_mem _ (List.mem_cons_of_mem _ (List.mem_cons_self ..)))
      have c5 : _ = some (Value.slice va j vc) := hb5.cell 0
      have f5 := hb5.frozen 0
      have h6 := HG.setAt 2 rfl 0 (.slice (some ⟨g, 0, none⟩) (j + 1) cap1)
      have h7 := (h6.front 2 rfl).front 2 rfl
      have h7 : Sp w0 (rmemz F n (Mb.fresh n) :: blk B (rbbox b0 (.slice (some ⟨g, 0, none⟩) (j + 1) cap1)) 63 :: row 60 1 (.slice (some ⟨g, 0, none⟩) (j + 1) cap1) (j + 1) (ptrs ps ++ [.pointer (some ⟨F, 0, none⟩)]) :: (rmems n ps (List.replicate j (Mb.fresh n)) ++ L)) _ := h7
      have h8 := rmems_push h7 (by rw [HP.out, List.length_replicate])
      rw [← List.replicate_succ', show ptrs ps ++ [.pointer (some ⟨F, 0, none⟩)] = ptrs (ps ++ [F]) by rw [ptrs_app]; rfl] at h8
      have H8 := Lib.hid h8
      clear h6 h7 h8 HG hb5 hown hown2 hgrow hat hnil H4 c0
      go_wp2
      go_roundw
      case measure => simp [intOf]; omega
      case rel => exact ⟨j + 1, ps ++ [F], _, by omega, by go_num, by rw [List.length_append, HP.out]; rfl, H8.out⟩
    · obtain rfl : j = N := by omega
      have dlt : decide ((j : Int) < (j : Int)) = false := decide_eq_false (by omega)
      have HP2 := HP.out
      subst HP2
      have h3 : Sp w0 (rbay B ps n (By.fresh ps.length n) :: L) wr := rbayClose (b := By.fresh ps.length n) (v := .slice va ps.length vc) (by simp [By.fresh]) h2
      have H3 := Lib.hid h3
      clear h2 h3
      go_wp2
      go_ret
      first | exact ⟨B, rfl, ps, H3.out⟩ | exact ⟨B, ps, rfl, H3.out⟩
end
section
variable {w0 w : World} {R n : Nat} {ps : List Nat} {b : By} {L : List Asn}
set_option maxHeartbeats 4000000 in
set_option maxRecDepth 100000 in
theorem rblive_calls (h : Sp w0 (rbay R ps n b :: L) w) (hk : ps.length ≤ 100000) :
    Calls Tryz.prog 79 #[.pointer (some ⟨R, 0, none⟩)] w fun e w' => ∃ v, e = .returned v ∧ Sp w0 (row 3 1 v b.live.length (nats b.live) :: rbay R ps n b :: L) w' := by
  obtain ⟨_, _, hr⟩ := rbds h
  have hlen := hr.len
  have HN := Lib.hid (h.nil 3 1)
  obtain ⟨N, hN⟩ : ∃ N, N = b.M.length := ⟨_, rfl⟩
  have HNN := Lib.hid (And.intro hN hlen)
  have hkN : N ≤ 100000 := by omega
  obtain ⟨i0, hi0, hz0, hz1, hz2⟩ := info_parts int_info
  have hlv : b.live = liveTo b N := by unfold By.live liveTo; rw [hN]
  rw [hlv]
  clear h hr hlen hN hk hlv
  go_enter Tryz.func79, Tryz.ntmps79
  go_wp2
  go_loopw [3, 4] (fun x3 x4 wr => ∃ (k : Nat) (u : Value), k ≤ N ∧ x4 = .int .i64 k ∧ u = x3 ∧ Sp w0 (row 3 1 u (liveTo b k).length (nats (liveTo b k)) :: rbay R ps n b :: L) wr) (fun _ i _ => N - (intOf i).toNat)
  case atStart => exact ⟨0, .slice none 0 0, Nat.zero_le _, rfl, rfl, HN.out⟩
  case round =>
    clear HN
    obtain ⟨k, u, hk, rfl, rfl, h2⟩ := hrel
    obtain ⟨a, c, hr⟩ := rbds (h2.front 1 rfl)
    have c0 := hr.c0
    rw [HNN.out.2, ← HNN.out.1] at c0
    by_cases hlt : k < N
    · have dlt : decide ((k : Int) < (N : Int)) = true := decide_eq_true (by omega)
      have i1 : (k : Int) < (N : Int) := by omega
      obtain ⟨p, hp⟩ : ∃ p, ps[k]? = some p := ⟨_, List.getElem?_eq_getElem (by rw [HNN.out.2, ← HNN.out.1]; exact hlt)⟩
      obtain ⟨m, hm⟩ : ∃ m, b.M[k]? = some m := ⟨_, List.getElem?_eq_getElem (by rw [← HNN.out.1]; exact hlt)⟩
      obtain ⟨g, rfl, hc⟩ := hr.p k p hp
      obtain ⟨L', h3, _⟩ := rbay_member (h2.front 1 rfl) hp hm
      obtain ⟨_, cd⟩ := rzcells h3
      have hat : (b.at k).dead = m.dead := by rw [at_eq hm]
      have H2 := Lib.hid (And.intro h2 hat)
      clear h2 h3 hp hm hr hat
      obtain ⟨d, hd⟩ : ∃ d, d = m.dead := ⟨_, rfl⟩
      rw [← hd] at cd H2
      clear hd
      cases d
      · have hl := liveTo_live H2.out.2
        have hle : (liveTo b k).length ≤ 100000 := by have := liveTo_le b k; omega
        have h3 := H2.out.1.any (.cells #[.int .i64 (k : Nat)] 3)
        have hown := h3.row (v := u) (n := (liveTo b k).length) (T := 3) (List.mem_cons_self ..)
        have H3 := Lib.hid (And.intro h3 hl)
        obtain ⟨fl, hflq⟩ : ∃ fl, fl = (liveTo b k).length := ⟨_, rfl⟩
        have HFL := Lib.hid hflq
        rw [← hflq] at hown hle
        clear h3 hl hflq
        go_wp2_with (at_builtin; refine wpList_append_own_at _ rfl (.tmp 25) (.tmp 27) 31 rfl 0 3 i0 (.int .i64 0) 1 8 Tryz.underlying31 hi0 hz0 hz1 hz2 rfl (by decide) u fl (nats (liveTo b k)) rfl hown ⟨wr.heap.size, 0, none⟩ 1 1 [.int .i64 (k : Nat)] rfl rfl ?x1 ?x2 ?x3 ?x4 ?x5 ?_)
        case x1 =>
          intro j y hy
          have hb := Blk.new wr #[.int .i64 (k : Nat)] 3
          rw [Addr.add_mid, Nat.zero_add, hb.cell]
          simpa using hy
        case x2 => intro y hy; simp at hy; subst hy; rfl
        case x3 => unfold maxLen; omega
        case x4 => omega
        case x5 => omega
        intro v' w2 hown2 hgrow hnil hat
        rw [HFL.out] at hown2
        have h4 := H3.out.1.grow hown2 hgrow (hat.imp id (fun e => e.trans (by simp)))
        rw [show nats (liveTo b k) ++ [.int .i64 (k : Nat)] = nats (liveTo b (k + 1)) by rw [H3.out.2, nats_app]; rfl, show (liveTo b k).length + 1 = (liveTo b (k + 1)).length by rw [H3.out.2]; simp] at h4
        have H4 := Lib.hid h4
        clear hown2 hgrow hnil hat hown h4 H3
        go_wp2
        go_roundw
        case measure => simp [intOf]; omega
        case rel => exact ⟨k + 1, v', by omega, by go_num, rfl, H4.out⟩
      · have hl := liveTo_dead H2.out.2
        have h3 := H2.out.1
        rw [← hl] at h3
        have H3 := Lib.hid h3
        clear hl h3
        go_wp2
        go_roundw
        case measure => simp [intOf]; omega
        case rel => exact ⟨k + 1, u, by omega, by go_num, rfl, H3.out⟩
    · obtain rfl : k = N := by omega
      have dlt : decide ((k : Int) < (k : Int)) = false := decide_eq_false (by omega)
      have H2 := Lib.hid h2
      clear h2 hr
      go_wp2
      go_ret
      exact ⟨u, rfl, H2.out⟩
set_option maxHeartbeats 8000000 in
set_option maxRecDepth 100000 in
theorem rbcrash_calls (h : Sp w0 (rbay R ps n b :: L) w) (hq : ∀ m ∈ b.M, m.q.length ≤ 1000000) (hN : ps.length ≤ 100000) (a : Option Addr) (c : Nat) (KA : Ks) (hKl : KA.length ≤ 100000) (hKb : ∀ x ∈ KA, x.2.2.length ≤ 9223372036854775807) (hK : ∀ L' w', Sp w0 (L' ++ L) w' → Wss w' a KA) :
    Calls Tryz.prog 52 #[.pointer (some ⟨R, 0, none⟩), .slice a KA.length c] w fun e w' => e = .returned (.tuple #[]) ∧ Sp w0 (rbay R ps n (b.crash (kss KA)) :: L) w' := by
  obtain ⟨_, _, hr⟩ := rbds h
  have ho := hr.len
  have H0 := Lib.hid h
  obtain ⟨N, hNN⟩ : ∃ N, N = ps.length := ⟨_, rfl⟩
  rw [← hNN] at hN ho
  obtain ⟨len, hl⟩ : ∃ len, len = KA.length := ⟨_, rfl⟩
  rw [← hl] at hKl ⊢
  have HH := Lib.hid (And.intro hq (And.intro ho (And.intro hKb (And.intro hK (And.intro hNN hl)))))
  clear h hr ho hNN hl hq hKb hK
  go_enter Tryz.func52, Tryz.ntmps52
  go_wp2
  go_loopw [4] (fun x4 wr => ∃ (k : Nat) (M' : List Mb), k ≤ N ∧ x4 = .int .i64 k ∧ Sp w0 (rbay R ps n { b with M := M' } :: L) wr ∧ Hid (CrTo b KA k M')) (fun i _ => N - (intOf i).toNat)
  case atStart => exact ⟨0, b.M, Nat.zero_le _, rfl, H0.out, Lib.hid ⟨rfl, fun i m hi => by omega, fun i m _ hm => hm⟩⟩
  case round =>
    clear H0
    obtain ⟨k, M', hk, rfl, h2, HC⟩ := hrel
    obtain ⟨sa, sc, hr⟩ := rbds h2
    have c0 := hr.c0
    rw [← HH.out.2.2.2.2.1] at c0
    by_cases hlt : k < N
    · have dlt : decide ((k : Int) < (N : Int)) = true := decide_eq_true (by omega)
      have i1 : (k : Int) < (N : Int) := by omega
      obtain ⟨p, hp⟩ : ∃ p, ps[k]? = some p := ⟨_, List.getElem?_eq_getElem (by rw [← HH.out.2.2.2.2.1]; exact hlt)⟩
      obtain ⟨m, hm⟩ : ∃ m, b.M[k]? = some m := ⟨_, List.getElem?_eq_getElem (by rw [← HH.out.2.1]; exact hlt)⟩
      have hm' := HC.out.hi k m (Nat.le_refl _) hm
      obtain ⟨g, rfl, hc⟩ := hr.p k p hp
      obtain ⟨X, h3, hback⟩ := rbay_member h2 hp hm'
      have hmq := HH.out.1 m (List.mem_of_getElem? hm)
      by_cases hkl : k < len
      · have dkl : decide ((k : Int) < (len : Int)) = true := decide_eq_true (by omega)
        have i2 : (k : Int) < (len : Int) := by omega
        obtain ⟨⟨ka, kc, K⟩, hx⟩ : ∃ x, KA[k]? = some x := ⟨_, List.getElem?_eq_getElem (by rw [← HH.out.2.2.2.2.2]; exact hkl)⟩
        obtain ⟨pa, rfl, hka, _⟩ := HH.out.2.2.2.1 [_] wr h2 k _ hx
        dsimp only at hka
        have hz := rzcrash h3 hmq ka kc K (HH.out.2.2.1 _ (List.mem_of_getElem? hx)) (fun L'' w'' hs => by
          have hs2 : Sp w0 ((L'' ++ X) ++ L) w'' := by rw [List.append_assoc]; exact hs
          obtain ⟨_, _, _, h5⟩ := HH.out.2.2.2.1 _ w'' hs2 k _ hx
          exact h5)
        have hgd : (kss KA).getD k [] = K := by unfold kss; rw [List.getD_eq_getElem?_getD, List.getElem?_map, hx]; rfl
        have hnext := HC.out.next hm
        rw [hgd] at hnext
        have HZ := Lib.hid (And.intro hz (And.intro hback hnext))
        obtain ⟨kl, hkl2⟩ : ∃ kl, kl = K.length := ⟨_, rfl⟩
        rw [← hkl2] at hka HZ
        clear h2 h3 hback hz hgd hnext hx hkl2 hmq hm hm' hp HC hr
        go_wp2_with fail
        refine HZ.out.1.mono ?_
        rintro e w3 ⟨rfl, h4⟩
        have H4 := Lib.hid (HZ.out.2.1 _ _ h4)
        clear h4
        go_wp2
        go_roundw
        case measure => simp [intOf]; omega
        case rel => exact ⟨k + 1, _, by omega, by go_num, H4.out, Lib.hid HZ.out.2.2⟩
      · have dkl : decide ((k : Int) < (len : Int)) = false := decide_eq_false (by omega)
        have hz := rzcrash h3 hmq none 0 [] (by decide) (fun L'' w'' hs i x hx => by simp at hx)
        have hgd : (kss KA).getD k [] = [] := by unfold kss; rw [List.getD_eq_getElem?_getD, List.getElem?_map, List.getElem?_eq_none (by rw [← HH.out.2.2.2.2.2]; omega)]; rfl
        have hnext := HC.out.next hm
        rw [hgd] at hnext
        have HZ := Lib.hid (And.intro hz (And.intro hback hnext))
        clear h2 h3 hback hz hgd hnext hmq hm hm' hp HC hr
        go_wp2_with fail
        refine HZ.out.1.mono ?_
        rintro e w3 ⟨rfl, h4⟩
        have H4 := Lib.hid (HZ.out.2.1 _ _ h4)
        clear h4
        go_wp2
        go_roundw
        case measure => simp [intOf]; omega
        case rel => exact ⟨k + 1, _, by omega, by go_num, H4.out, Lib.hid HZ.out.2.2⟩
    · obtain rfl : k = N := by omega
      have dlt : decide ((k : Int) < (k : Int)) = false := decide_eq_false (by omega)
      have hM : M' = crashes (kss KA) b.M := by have := HC.out; rw [HH.out.2.1] at this; exact this.done
      subst hM
      have c2 := hr.c2
      have f2 := hr.f 2
      have HF := Lib.hid (rbset (b' := b.crash (kss KA)) h2 2 (.int .i64 (-1)) rfl (fun v => by unfold rbbox By.rest By.crash; rfl))
      clear h2 hr HC
      go_wp2
      first | go_end0 | refine bodyPost_ret (results_none rfl _ _ _) rfl ?_
      exact ⟨rfl, HF.out⟩
end
end Go.Proofs.YtbbhcmfkkkjehaaGreat.Bay
