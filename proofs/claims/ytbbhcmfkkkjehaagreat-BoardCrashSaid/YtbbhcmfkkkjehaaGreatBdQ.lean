/- What a board's calls come to: each change that is fine raises the epoch. No program is named here. -/
import Derived.Test.YtbbhcmfkkkjehaaGreatBdP
namespace Go.Proofs.YtbbhcmfkkkjehaaGreat.Brd
open Go.RowKit Go.Proofs.YtbbhcmfkkkjehaaGreat.Mem Go.Proofs.YtbbhcmfkkkjehaaGreat.Sep Go.Proofs.YtbbhcmfkkkjehaaGreat.Member Go.Proofs.YtbbhcmfkkkjehaaGreat.Bay Go.Proofs.YtbbhcmfkkkjehaaGreat.Lab Go.Proofs.YtbbhcmfkkkjehaaGreat.B8 Go.Proofs.YtbbhcmfkkkjehaaGreat.CrcS Go.Proofs.YtbbhcmfkkkjehaaGreat.Num
set_option linter.unusedVariables false
set_option linter.unusedSimpArgs false

/-! The newest of many. -/
theorem fold_spec : ∀ (L : List (List Nat)) (b : Lb), (L.foldl nstep b = b ∨ ∃ s ∈ L, L.foldl nstep b = Lab.get s) ∧ b.ep ≤ (L.foldl nstep b).ep ∧ ∀ s ∈ L, (Lab.get s).ep ≤ (L.foldl nstep b).ep
  | [], b => ⟨.inl rfl, Int.le_refl _, by simp⟩
  | s :: L, b => by
    obtain ⟨h1, h2, h3⟩ := fold_spec L (nstep b s)
    have hb : b.ep ≤ (nstep b s).ep ∧ (Lab.get s).ep ≤ (nstep b s).ep := by unfold nstep; split <;> omega
    rw [List.foldl_cons]
    refine ⟨?_, by omega, fun x hx => ?_⟩
    · rcases h1 with h1 | ⟨x, hx, h1⟩
      · rw [h1]
        unfold nstep
        split
        · exact .inr ⟨s, List.mem_cons_self .., rfl⟩
        · exact .inl rfl
      · exact .inr ⟨x, List.mem_cons_of_mem _ hx, h1⟩
    · rcases List.mem_cons.1 hx with rfl | hx
      · omega
      · exact h3 x hx
theorem newest_is {L : List (List Nat)} {l : Lb} (h0 : 0 < l.ep) (hm : ∃ s ∈ L, Lab.get s = l) (ha : ∀ s ∈ L, Lab.get s = l ∨ (Lab.get s).ep < l.ep) : newest L = l := by
  obtain ⟨h1, _, h3⟩ := fold_spec L Lb.zero
  obtain ⟨s, hs, e⟩ := hm
  have k := h3 s hs
  rw [e] at k
  unfold newest
  rcases h1 with h1 | ⟨x, hx, h1⟩
  · rw [h1] at k
    have : Lb.zero.ep = 0 := rfl
    omega
  · rcases ha x hx with h | h
    · rw [h1, h]
    · rw [h1] at k
      omega
/-- The label of a sector. -/
def tl (s : ByteArray) : Lb := Lab.get (by8 s)
theorem tl_put {l : Lb} (h : l.Ok) : tl (bts l.put) = l ∧ (bts l.put).size = 64 := by
  have e : l.put = l.sec := by unfold Lb.put; rw [(Lb.good_iff l).2 h]; rfl
  unfold tl
  rw [e, by8_bts _ (Lb.sec_lt _)]
  exact ⟨(get_sec h).2, by rw [bts_size]; exact Lb.sec_length h.n32⟩
theorem tl_zero : (tl z64).ep = 0 := by
  have h : Lab.get (by8 z64) = Lb.zero := get_none (by decide +kernel)
  unfold tl
  rw [h]; rfl
/-! A sector written to some members, each flushed behind: whatever the power does. -/
def wrote (m : Mb) (j : Int) (s : ByteArray) : Mb := (m.put j s).flush
section
variable {n : Nat} {j : Int} {s : ByteArray}
theorem put_yes {m : Mb} (hd : m.dead = false) (hl : m.now.length = n) (h0 : 0 ≤ j) (h1 : j < n) (hs : s.size = 64) : m.putE j s = 0 ∧ m.put j s = { m with now := m.now.set j.toNat s, q := m.q ++ [(j.toNat, s)], w := wrap64 (m.w + 1) } := by
  have hE : m.putE j s = 0 := by
    unfold Mb.putE Mb.may
    have e : (if m.dead = true then (22 : Int) else if j < 0 ∨ (m.now.length : Int) ≤ j then 3 else 0) = 0 := by rw [hd, hl, if_neg (by decide), if_neg (by omega)]
    rw [e, if_neg (by decide), if_neg (by omega)]
  exact ⟨hE, by unfold Mb.put; rw [if_pos hE]⟩
theorem put_dead (m : Mb) : (m.put j s).dead = m.dead ∧ (m.put j s).now.length = m.now.length := by
  unfold Mb.put
  split
  · exact ⟨rfl, List.length_set⟩
  · exact ⟨rfl, rfl⟩
theorem flush_dead (m : Mb) : m.flush.dead = m.dead ∧ m.flush.now = m.now := by
  unfold Mb.flush
  split
  · exact ⟨rfl, rfl⟩
  · exact ⟨rfl, rfl⟩
theorem step_set (b : By) : b.step.set = b.set := by unfold By.step; split; split <;> rfl; rfl
theorem step_off {b : By} (h : b.set = false) : b.stepE = 0 := by unfold By.stepE; rw [h]; rfl
theorem there_of {b : By} {i : Nat} {m : Mb} (h : b.M[i]? = some m) : b.thereE (i : Nat) = 0 := by
  have := (List.getElem?_eq_some_iff.1 h).1
  unfold By.thereE
  rw [if_pos (by omega)]
theorem on_at {b : By} {i : Nat} {m m' : Mb} (h : b.M[i]? = some m) : (b.on i m').M[i]? = some m' := by
  have := (List.getElem?_eq_some_iff.1 h).1
  unfold By.on
  exact List.getElem?_set_self this
theorem on_ne {b : By} {i k : Nat} {m' : Mb} (h : i ≠ k) : (b.on i m').M[k]? = b.M[k]? := by
  unfold By.on
  exact List.getElem?_set_ne h
/-- What one of them is behind it. -/
structure Pb (b b' : By) (E : Int) (ms : List Nat) (j : Int) (s : ByteArray) : Prop where
  len : b'.M.length = b.M.length
  two : E = 0 ∨ E = 21
  at_ : ∀ (i : Nat) m, b.M[i]? = some m → ∃ m', b'.M[i]? = some m' ∧ (m' = m ∨ i ∈ ms ∧ (m' = m.put j s ∨ m' = wrote m j s)) ∧ (E = 0 → i ∈ ms → m' = wrote m j s) ∧ (i ∉ ms → m' = m)
  on : b.set = false → E = 0 ∧ b'.set = false
theorem pubs_any (h0 : 0 ≤ j) (h1 : j < n) (hs : s.size = 64) : ∀ (ms : List Nat) (b : By), ms.Nodup → (∀ i ∈ ms, ∃ m, b.M[i]? = some m ∧ m.dead = false ∧ m.now.length = n) → Pb b (pubs s j ms b).1 (pubs s j ms b).2 ms j s
  | [], b, _, _ => ⟨rfl, .inl rfl, fun i m h => ⟨m, h, .inl rfl, fun _ h => by simp at h, fun _ => rfl⟩, fun h => ⟨rfl, h⟩⟩
  | k :: ms, b, hn, ha => by
    obtain ⟨hk, hn⟩ := List.nodup_cons.1 hn
    obtain ⟨m, hm, hd, hl⟩ := ha k (List.mem_cons_self ..)
    have hp := put_yes hd hl h0 h1 hs
    have ht := there_of hm
    have ht1 : b.thereE (k : Nat) = 0 := ht
    unfold pubs
    have ew : b.writeE k j s = if b.stepE ≠ 0 then 21 else 0 := by
      unfold By.writeE
      rw [ht, if_neg (by simp), Int.toNat_natCast, at_eq hm, hp.1]
    have eb : b.write k j s = if b.stepE ≠ 0 then b.step else b.step.on k (m.put j s) := by
      unfold By.write
      rw [ht, if_neg (by simp), Int.toNat_natCast, at_eq hm]
    have hsm : b.step.M[k]? = some m := by rw [step_M]; exact hm
    by_cases hE : b.stepE = 0
    · rw [if_neg (by simpa using hE)] at ew eb
      rw [ew, eb, if_neg (by decide)]
      obtain ⟨b1, hb1⟩ : ∃ b1, b1 = b.step.on k (m.put j s) := ⟨_, rfl⟩
      rw [← hb1]
      have hm1 : b1.M[k]? = some (m.put j s) := by rw [hb1]; exact on_at hsm
      have hne1 : ∀ i, i ≠ k → b1.M[i]? = b.M[i]? := fun i hi => by rw [hb1, on_ne (fun e => hi e.symm), step_M]
      have hl1 : b1.M.length = b.M.length := by rw [hb1, By.on_length, step_M]
      have hs1 : b1.set = b.set := by rw [hb1]; exact step_set b
      have hfd := (put_dead (j := j) (s := s) m).1.trans hd
      have fe : b1.flushE k = if b1.stepE ≠ 0 then 21 else 0 := by
        unfold By.flushE
        rw [there_of hm1, if_neg (by simp), Int.toNat_natCast, at_eq hm1]
        unfold Mb.flushE
        rw [hfd]; rfl
      have fb : b1.flush k = if b1.stepE ≠ 0 then b1.step else b1.step.on k (wrote m j s) := by
        unfold By.flush
        rw [there_of hm1, if_neg (by simp), Int.toNat_natCast, at_eq hm1]; rfl
      by_cases hF : b1.stepE = 0
      · rw [if_neg (by simpa using hF)] at fe fb
        rw [fe, fb, if_neg (by decide)]
        obtain ⟨b2, hb2⟩ : ∃ b2, b2 = b1.step.on k (wrote m j s) := ⟨_, rfl⟩
        rw [← hb2]
        have hm2 : b2.M[k]? = some (wrote m j s) := by rw [hb2]; exact on_at (by rw [step_M]; exact hm1)
        have hne2 : ∀ i, i ≠ k → b2.M[i]? = b.M[i]? := fun i hi => by rw [hb2, on_ne (fun e => hi e.symm), step_M]; exact hne1 i hi
        have hl2 : b2.M.length = b.M.length := by rw [hb2, By.on_length, step_M]; exact hl1
        have hs2 : b2.set = b.set := by rw [hb2]; exact (step_set b1).trans hs1
        have ih := pubs_any h0 h1 hs ms b2 hn fun i hi => by
          rw [hne2 i (fun e => hk (e ▸ hi))]
          exact ha i (List.mem_cons_of_mem _ hi)
        refine ⟨ih.len.trans hl2, ih.two, fun i x hx => ?_, fun h => ih.on (hs2.trans h)⟩
        by_cases e : i = k
        · subst e
          obtain rfl : x = m := Option.some.inj (hx.symm.trans hm)
          obtain ⟨m', q1, _, _, q4⟩ := ih.at_ i _ hm2
          exact ⟨m', q1, .inr ⟨List.mem_cons_self .., .inr (q4 hk)⟩, fun _ _ => q4 hk, fun h => (h (List.mem_cons_self ..)).elim⟩
        · obtain ⟨m', q1, q2, q3, q4⟩ := ih.at_ i x (by rw [hne2 i e]; exact hx)
          refine ⟨m', q1, q2.imp id (fun h => ⟨List.mem_cons_of_mem _ h.1, h.2⟩), fun z hi => ?_, fun hi => q4 fun h => hi (List.mem_cons_of_mem _ h)⟩
          rcases List.mem_cons.1 hi with h | h
          · exact (e h).elim
          · exact q3 z h
      · rw [if_pos (by simpa using hF)] at fe fb
        rw [fe, fb, if_pos rfl]
        refine ⟨by show b1.step.M.length = _; rw [step_M]; exact hl1, .inr rfl, fun i x hx => ?_, fun h => (hF (step_off (hs1.trans h))).elim⟩
        show ∃ m', b1.step.M[i]? = some m' ∧ _
        rw [step_M]
        by_cases e : i = k
        · subst e
          obtain rfl : x = m := Option.some.inj (hx.symm.trans hm)
          exact ⟨_, hm1, .inr ⟨List.mem_cons_self .., .inl rfl⟩, fun h => (by cases h), fun h => (h (List.mem_cons_self ..)).elim⟩
        · exact ⟨x, by rw [hne1 i e]; exact hx, .inl rfl, fun h => (by cases h), fun _ => rfl⟩
    · rw [if_pos (by simpa using hE)] at ew eb
      rw [ew, eb, if_pos rfl]
      refine ⟨by show b.step.M.length = _; rw [step_M], .inr rfl, fun i x hx => ⟨x, by show b.step.M[i]? = _; rw [step_M]; exact hx, .inl rfl, fun h => (by cases h), fun _ => rfl⟩, fun h => (hE (step_off h)).elim⟩
end
/-! The invariant. -/
structure Inv (b : By) (n : Nat) (l : Lb) : Prop where
  set : b.set = false
  ok : l.Ok
  len : (b.M.length : Int) = l.m
  room : 100 + l.t ≤ (n : Int)
  size : ∀ (i : Nat) m, b.M[i]? = some m → m.now.length = n
  alive : ∀ (i : Nat) m, b.M[i]? = some m → m.dead = false → m.q = [] ∧ m.las = m.now ∧ ∀ k : Nat, k < 2 → ∃ s, m.now[k]? = some s ∧ ((k : Int) = l.ep % 2 ∧ tl s = l ∨ (k : Int) ≠ l.ep % 2 ∧ (tl s).ep < l.ep)
  dead : ∀ (i : Nat) m, b.M[i]? = some m → (m.dead = true ↔ l.st[i]? = some 1)
/-- What is so ahead of a label's being written: nothing newer than it stands anywhere. -/
structure Pre (b : By) (n : Nat) (e : Int) : Prop where
  size : ∀ (i : Nat) m, b.M[i]? = some m → m.now.length = n
  alive : ∀ (i : Nat) m, b.M[i]? = some m → m.dead = false → m.q = [] ∧ m.las = m.now ∧ ∀ k : Nat, k < 2 → ∃ s, m.now[k]? = some s ∧ (tl s).ep ≤ e
theorem Inv.pre {b : By} {n : Nat} {l : Lb} (h : Inv b n l) : Pre b n l.ep := ⟨h.size, fun i m hm hd => by
  obtain ⟨h1, h2, h3⟩ := h.alive i m hm hd
  refine ⟨h1, h2, fun k hk => ?_⟩
  obtain ⟨s, hs, h4⟩ := h3 k hk
  refine ⟨s, hs, ?_⟩
  rcases h4 with ⟨_, h4⟩ | ⟨_, h4⟩
  · rw [h4]; exact Int.le_refl _
  · omega⟩
theorem mem_live {b : By} {i : Nat} : i ∈ b.live ↔ ∃ m, b.M[i]? = some m ∧ m.dead = false := by
  unfold By.live
  rw [List.mem_filter, List.mem_range]
  constructor
  · rintro ⟨h1, h2⟩
    have e := List.getElem?_eq_getElem h1
    refine ⟨_, e, ?_⟩
    rw [at_eq e] at h2
    simpa using h2
  · rintro ⟨m, h1, h2⟩
    refine ⟨(List.getElem?_eq_some_iff.1 h1).1, ?_⟩
    rw [at_eq h1, h2]; rfl
theorem live_nodup (b : By) : b.live.Nodup := List.Pairwise.filter _ List.nodup_range
theorem Pre.pub {b : By} {n : Nat} {e : Int} (h : Pre b n e) (hn : 2 ≤ n) {j : Int} {s : ByteArray} (h0 : 0 ≤ j) (h1 : j < 2) (hs : s.size = 64) : Pb b (pubs s j b.live b).1 (pubs s j b.live b).2 b.live j s :=
  pubs_any (n := n) h0 (by omega) hs b.live b (live_nodup b) fun i hi => by
    obtain ⟨m, hm, hd⟩ := mem_live.1 hi
    exact ⟨m, hm, hd, h.size i m hm⟩
/-- A member written and flushed. -/
theorem wrote_is {m : Mb} {n : Nat} {j : Int} {s : ByteArray} (hd : m.dead = false) (hl : m.now.length = n) (h0 : 0 ≤ j) (h1 : j < n) (hs : s.size = 64) : (wrote m j s).dead = false ∧ (wrote m j s).q = [] ∧ (wrote m j s).las = m.now.set j.toNat s ∧ (wrote m j s).now = m.now.set j.toNat s := by
  unfold wrote
  rw [(put_yes hd hl h0 h1 hs).2]
  unfold Mb.flush
  rw [if_neg (by show ¬ m.dead = true; rw [hd]; decide)]
  exact ⟨hd, rfl, rfl, rfl⟩
theorem nx_ep (now l : Lb) : (nx now l).ep = now.ep + 1 := rfl
/-- A label told with the power on. -/
theorem pub_on {b : By} {n : Nat} {now l : Lb} (h : Pre b n now.ep) (hs : b.set = false) (h0 : 1 ≤ now.ep) (h1 : now.ep < 9007199254740992) (ho : (nx now l).Ok) (hlen : (b.M.length : Int) = l.m) (hr : 100 + l.t ≤ (n : Int)) (hd : ∀ (i : Nat) m, b.M[i]? = some m → (m.dead = true ↔ l.st[i]? = some 1)) :
    pubE b now l = 0 ∧ pubL b now l = nx now l ∧ Inv (pubB b now l) n (nx now l) := by
  have ht := ho.t1
  have ht : 1 ≤ l.t := ht
  obtain ⟨k1, k2⟩ := tl_put ho
  have hj : 0 ≤ (now.ep + 1) % 2 ∧ (now.ep + 1) % 2 < 2 := by omega
  have hp := h.pub (by omega) hj.1 hj.2 k2
  obtain ⟨hE, hset⟩ := hp.on hs
  have eE : pubE b now l = 0 := by unfold pubE; rw [if_neg (by omega)]; exact hE
  have eB : pubB b now l = (pubs (bts (nx now l).put) ((now.ep + 1) % 2) b.live b).1 := by unfold pubB; rw [if_neg (by omega)]
  refine ⟨eE, by unfold pubL; rw [eE]; rfl, ?_⟩
  rw [eB]
  have back : ∀ (i : Nat) m', (pubs (bts (nx now l).put) ((now.ep + 1) % 2) b.live b).1.M[i]? = some m' → ∃ m, b.M[i]? = some m ∧ m'.dead = m.dead ∧ m'.now.length = n ∧ (m.dead = false → m' = wrote m ((now.ep + 1) % 2) (bts (nx now l).put)) := fun i m' hm' => by
    have hi := (List.getElem?_eq_some_iff.1 hm').1
    rw [hp.len] at hi
    have hm := List.getElem?_eq_getElem hi
    obtain ⟨x, q1, _, q3, q4⟩ := hp.at_ i _ hm
    obtain rfl := Option.some.inj (q1.symm.trans hm')
    refine ⟨_, hm, ?_⟩
    by_cases hl : i ∈ b.live
    · obtain ⟨m2, e2, d2⟩ := mem_live.1 hl
      obtain rfl := Option.some.inj (e2.symm.trans hm)
      have := q3 hE hl
      subst this
      obtain ⟨w1, _, _, w4⟩ := wrote_is d2 (h.size i _ hm) hj.1 (by omega) k2
      exact ⟨w1.trans d2.symm, by rw [w4, List.length_set]; exact h.size i _ hm, fun _ => rfl⟩
    · have := q4 hl
      subst this
      refine ⟨rfl, h.size i _ hm, fun hd0 => (hl (mem_live.2 ⟨_, hm, hd0⟩)).elim⟩
  refine ⟨hset, ho, by rw [hp.len]; exact hlen, hr, fun i m' hm' => ?_, fun i m' hm' hd' => ?_, fun i m' hm' => ?_⟩
  · obtain ⟨_, _, _, h3, _⟩ := back i m' hm'
    exact h3
  · obtain ⟨m, hm, e1, _, e3⟩ := back i m' hm'
    have hd0 := e1.symm.trans hd'
    have := e3 hd0
    subst this
    obtain ⟨_, w2, w3, w4⟩ := wrote_is hd0 (h.size i _ hm) hj.1 (by omega) k2
    refine ⟨w2, w3.trans w4.symm, fun k hk => ?_⟩
    have hsz := h.size i _ hm
    rw [nx_ep, w4]
    by_cases e : (k : Int) = (now.ep + 1) % 2
    · have ek : ((now.ep + 1) % 2).toNat = k := by omega
      rw [ek]
      exact ⟨_, List.getElem?_set_self (by omega), .inl ⟨e, k1⟩⟩
    · have ek : ((now.ep + 1) % 2).toNat ≠ k := by omega
      obtain ⟨s, hs, he⟩ := (h.alive i m hm hd0).2.2 k hk
      exact ⟨s, by rw [List.getElem?_set_ne ek]; exact hs, .inr ⟨e, by omega⟩⟩
  · obtain ⟨m, hm, e1, _, _⟩ := back i m' hm'
    rw [e1]
    exact hd i m hm
end Go.Proofs.YtbbhcmfkkkjehaaGreat.Brd
