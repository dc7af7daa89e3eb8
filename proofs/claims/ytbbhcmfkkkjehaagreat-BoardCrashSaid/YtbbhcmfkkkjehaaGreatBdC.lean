/- The power fails in a change of a label: opened again it is the one ahead, or the one behind it. No program is named here. -/
import Derived.Test.YtbbhcmfkkkjehaaGreatBdV
namespace Go.Proofs.YtbbhcmfkkkjehaaGreat.Brd
open Go.RowKit Go.Proofs.YtbbhcmfkkkjehaaGreat.Mem Go.Proofs.YtbbhcmfkkkjehaaGreat.Sep Go.Proofs.YtbbhcmfkkkjehaaGreat.Member Go.Proofs.YtbbhcmfkkkjehaaGreat.Bay Go.Proofs.YtbbhcmfkkkjehaaGreat.Lab Go.Proofs.YtbbhcmfkkkjehaaGreat.B8 Go.Proofs.YtbbhcmfkkkjehaaGreat.CrcS Go.Proofs.YtbbhcmfkkkjehaaGreat.Num
set_option linter.unusedVariables false
set_option linter.unusedSimpArgs false

/-- Nothing newer than l stands anywhere; someone alive has l. -/
structure Old (p : By) (n : Nat) (l : Lb) : Prop where
  size : ∀ (i : Nat) m, p.M[i]? = some m → m.now.length = n
  alive : ∀ (i : Nat) m, p.M[i]? = some m → m.dead = false → m.q = [] ∧ m.las = m.now ∧ ∀ k : Nat, k < 2 → ∃ s, m.now[k]? = some s ∧ (tl s = l ∨ (tl s).ep < l.ep)
  one : ∃ (i : Nat) (m : Mb) (k : Nat) (s : ByteArray), p.M[i]? = some m ∧ m.dead = false ∧ k < 2 ∧ (k : Int) = l.ep % 2 ∧ m.now[k]? = some s ∧ tl s = l
theorem Old.pre {p : By} {n : Nat} {l : Lb} (h : Old p n l) : Pre p n l.ep := ⟨h.size, fun i m hm hd => by
  obtain ⟨h1, h2, h3⟩ := h.alive i m hm hd
  refine ⟨h1, h2, fun k hk => ?_⟩
  obtain ⟨s, hs, h4⟩ := h3 k hk
  exact ⟨s, hs, by rcases h4 with h4 | h4; rw [h4]; exact Int.le_refl _; omega⟩⟩
theorem Old.newl {p : By} {n : Nat} {l : Lb} (h : Old p n l) (hs : p.set = false) (h0 : 0 < l.ep) (hn : 2 ≤ n) : Brd.newl p = l := by
  obtain ⟨i, m, k, s, h1, h2, h3, _, h4, h5⟩ := h.one
  exact newl_is h0 hn hs h.size ⟨i, m, k, s, h1, h2, h3, h4, h5⟩ fun i m hm hd k hk => (h.alive i m hm hd).2.2 k hk
theorem Old.live {p : By} {n : Nat} {l : Lb} (h : Old p n l) : p.live ≠ [] := by
  obtain ⟨i, m, _, _, h1, h2, _⟩ := h.one
  intro e
  have : i ∈ p.live := mem_live.2 ⟨m, h1, h2⟩
  rw [e] at this; simp at this
/-! A crash. -/
theorem crash_M {p : By} {KS : List (List Nat)} {i : Nat} {m' : Mb} (h : (p.crash KS).M[i]? = some m') : ∃ m, p.M[i]? = some m ∧ m' = m.crash (KS.getD i []) := by
  have h : (crashes KS p.M)[i]? = some m' := h
  unfold crashes at h
  rw [List.getElem?_mapIdx] at h
  cases e : p.M[i]? with
  | none => rw [e] at h; cases h
  | some m =>
    rw [e] at h
    exact ⟨m, rfl, (Option.some.inj h).symm⟩
theorem crash_at {p : By} {KS : List (List Nat)} {i : Nat} {m : Mb} (h : p.M[i]? = some m) : (p.crash KS).M[i]? = some (m.crash (KS.getD i [])) := by
  show (crashes KS p.M)[i]? = _
  unfold crashes
  rw [List.getElem?_mapIdx, h]; rfl
theorem crash_len (p : By) (KS : List (List Nat)) : (p.crash KS).M.length = p.M.length := by
  show (crashes KS p.M).length = _
  unfold crashes
  rw [List.length_mapIdx]
theorem crash_dead (m : Mb) (K : List Nat) : (m.crash K).dead = m.dead := by
  unfold Mb.crash
  split <;> rfl
theorem crash_none (m : Mb) (K : List Nat) (h : m.dead = true) : m.crash K = m := by unfold Mb.crash; rw [if_pos h]
theorem crash_still {m : Mb} {K : List Nat} (hd : m.dead = false) (hq : m.q = []) (hl : m.las = m.now) : (m.crash K).q = [] ∧ (m.crash K).las = (m.crash K).now ∧ (m.crash K).now = m.now := by
  unfold Mb.crash
  rw [if_neg (by rw [hd]; decide), hq, hl]
  exact ⟨rfl, rfl, rfl⟩
theorem crash_put {m : Mb} {K : List Nat} {n : Nat} {j : Int} {s : ByteArray} (hd : m.dead = false) (hq : m.q = []) (hl : m.las = m.now) (hn : m.now.length = n) (h0 : 0 ≤ j) (h1 : j < n) (hs : s.size = 64) :
    ((m.put j s).crash K).q = [] ∧ ((m.put j s).crash K).las = ((m.put j s).crash K).now ∧ (((m.put j s).crash K).now = m.now ∨ ((m.put j s).crash K).now = m.now.set j.toNat s) := by
  rw [(put_yes hd hn h0 h1 hs).2]
  unfold Mb.crash
  rw [if_neg (by show ¬ m.dead = true; rw [hd]; decide)]
  refine ⟨rfl, rfl, ?_⟩
  show lasting K 0 (m.q ++ [(j.toNat, s)]) m.las = m.now ∨ lasting K 0 (m.q ++ [(j.toNat, s)]) m.las = m.now.set j.toNat s
  rw [hq, hl]
  show lasting K 1 [] (if kept K 0 then m.now.set j.toNat s else m.now) = _ ∨ lasting K 1 [] (if kept K 0 then m.now.set j.toNat s else m.now) = _
  split
  · exact .inr rfl
  · exact .inl rfl
theorem crash_wrote {m : Mb} {K : List Nat} {n : Nat} {j : Int} {s : ByteArray} (hd : m.dead = false) (hn : m.now.length = n) (h0 : 0 ≤ j) (h1 : j < n) (hs : s.size = 64) :
    ((wrote m j s).crash K).q = [] ∧ ((wrote m j s).crash K).las = ((wrote m j s).crash K).now ∧ ((wrote m j s).crash K).now = m.now.set j.toNat s := by
  obtain ⟨w1, w2, w3, w4⟩ := wrote_is hd hn h0 h1 hs
  obtain ⟨c1, c2, c3⟩ := crash_still (K := K) w1 w2 (w3.trans w4.symm)
  exact ⟨c1, c2, c3.trans w4⟩
theorem Old.crash {p : By} {n : Nat} {l : Lb} (h : Old p n l) (KS : List (List Nat)) : Old (p.crash KS) n l := by
  refine ⟨fun i m' hm' => ?_, fun i m' hm' hd' => ?_, ?_⟩
  · obtain ⟨m, hm, rfl⟩ := crash_M hm'
    cases hd : m.dead with
    | true => rw [crash_none _ _ hd]; exact h.size i m hm
    | false =>
      obtain ⟨h1, h2, _⟩ := h.alive i m hm hd
      rw [(crash_still hd h1 h2).2.2]; exact h.size i m hm
  · obtain ⟨m, hm, rfl⟩ := crash_M hm'
    rw [crash_dead] at hd'
    obtain ⟨h1, h2, h3⟩ := h.alive i m hm hd'
    obtain ⟨c1, c2, c3⟩ := crash_still (K := KS.getD i []) hd' h1 h2
    exact ⟨c1, c2, by rw [c3]; exact h3⟩
  · obtain ⟨i, m, k, s, h1, h2, h3, h4, h5, h6⟩ := h.one
    obtain ⟨a1, a2, _⟩ := h.alive i m h1 h2
    exact ⟨i, _, k, s, crash_at h1, (crash_dead m _).trans h2, h3, h4, by rw [(crash_still h2 a1 a2).2.2]; exact h5, h6⟩
theorem dead_crash (p : By) (KS : List (List Nat)) (i : Nat) : ((p.crash KS).at i).dead = (p.at i).dead := by
  unfold By.at
  rw [List.getD_eq_getElem?_getD, List.getD_eq_getElem?_getD]
  cases e : p.M[i]? with
  | none =>
    have : (p.crash KS).M[i]? = none := List.getElem?_eq_none (by rw [crash_len]; exact List.getElem?_eq_none_iff.1 e)
    rw [this]
  | some m => rw [crash_at e]; exact crash_dead m _
/-- A label's being written, the power's end, whatever is kept. -/
theorem pub_crash {p : By} {n : Nat} {l l0 : Lb} (h : Old p n l) (hn : 2 ≤ n) (h0 : 1 ≤ l.ep) (h1 : l.ep < 9007199254740992) (hok : (nx l l0).Ok) (KS : List (List Nat)) :
    ∃ ls, (ls = l ∨ ls = nx l l0) ∧ (pubE p l l0 = 0 → ls = nx l l0) ∧ Old ((pubB p l l0).crash KS) n ls ∧ (pubB p l l0).M.length = p.M.length ∧ ∀ i, ((pubB p l l0).at i).dead = (p.at i).dead := by
  obtain ⟨k1, k2⟩ := tl_put hok
  have hj : 0 ≤ (l.ep + 1) % 2 ∧ (l.ep + 1) % 2 < 2 := by omega
  have hp := h.pre.pub hn hj.1 hj.2 k2
  have eE : pubE p l l0 = (pubs (bts (nx l l0).put) ((l.ep + 1) % 2) p.live p).2 := by unfold pubE; rw [if_neg (by omega)]
  have eB : pubB p l l0 = (pubs (bts (nx l l0).put) ((l.ep + 1) % 2) p.live p).1 := by unfold pubB; rw [if_neg (by omega)]
  rw [eE, eB]
  obtain ⟨b', hb'⟩ : ∃ b', b' = (pubs (bts (nx l l0).put) ((l.ep + 1) % 2) p.live p).1 := ⟨_, rfl⟩
  obtain ⟨E, hE⟩ : ∃ E, E = (pubs (bts (nx l l0).put) ((l.ep + 1) % 2) p.live p).2 := ⟨_, rfl⟩
  obtain ⟨s, hs⟩ : ∃ s, s = bts (nx l l0).put := ⟨_, rfl⟩
  obtain ⟨j, hjj⟩ : ∃ j, j = (l.ep + 1) % 2 := ⟨_, rfl⟩
  rw [← hs] at k1 k2
  rw [← hb', ← hE, ← hs, ← hjj] at hp
  rw [← hjj] at hj
  rw [← hb', ← hE]
  clear eE eB hb' hE hs
  -- each member, behind it and the crash
  have hdd : ∀ (i : Nat) m, p.M[i]? = some m → ∃ m', b'.M[i]? = some m' ∧ m'.dead = m.dead := fun i m hm => by
    obtain ⟨m', e1, e2, _, e4⟩ := hp.at_ i m hm
    refine ⟨m', e1, ?_⟩
    rcases e2 with rfl | ⟨hi, rfl | rfl⟩
    · rfl
    · exact (put_dead m).1
    · unfold wrote; rw [(flush_dead _).1]; exact (put_dead m).1
  have hcr : ∀ (i : Nat) m', (b'.crash KS).M[i]? = some m' → ∃ m, p.M[i]? = some m ∧ m'.dead = m.dead ∧ m'.now.length = n ∧ (m.dead = false → m'.q = [] ∧ m'.las = m'.now ∧ (m'.now = m.now ∨ m'.now = m.now.set j.toNat s) ∧ (E = 0 → m'.now = m.now.set j.toNat s)) := fun i m' hm' => by
    obtain ⟨mb, hmb, rfl⟩ := crash_M hm'
    have hi := (List.getElem?_eq_some_iff.1 hmb).1
    rw [hp.len] at hi
    have hm := List.getElem?_eq_getElem hi
    obtain ⟨mx, e1, e2, e3, e4⟩ := hp.at_ i _ hm
    rw [hmb] at e1; cases e1
    obtain ⟨my, e5, e6⟩ := hdd i _ hm
    rw [hmb] at e5; cases e5
    obtain ⟨m, hme⟩ : ∃ m, m = p.M[i]'hi := ⟨_, rfl⟩
    rw [← hme] at hm e2 e3 e4 e6
    refine ⟨m, hm, (crash_dead _ _).trans e6, ?_, fun hd => ?_⟩
    · cases hd : m.dead with
      | true =>
        rw [crash_none _ _ (e6.trans hd)]
        have : i ∉ p.live := fun hl => by
          obtain ⟨m2, h2, h3⟩ := mem_live.1 hl
          rw [hm] at h2; cases h2
          rw [hd] at h3; cases h3
        rw [e4 this]; exact h.size i m hm
      | false =>
        obtain ⟨a1, a2, _⟩ := h.alive i m hm hd
        have hz := h.size i m hm
        rcases e2 with rfl | ⟨_, rfl | rfl⟩
        · rw [(crash_still hd a1 a2).2.2]; exact hz
        · rcases (crash_put (K := KS.getD i []) hd a1 a2 hz hj.1 (by omega) k2).2.2 with e | e
          · rw [e]; exact hz
          · rw [e, List.length_set]; exact hz
        · rw [(crash_wrote hd hz hj.1 (by omega) k2).2.2, List.length_set]; exact hz
    · obtain ⟨a1, a2, _⟩ := h.alive i m hm hd
      have hz := h.size i m hm
      have hlive : i ∈ p.live := mem_live.2 ⟨m, hm, hd⟩
      refine ⟨?_, ?_, ?_, fun hE0 => ?_⟩
      · rcases e2 with rfl | ⟨_, rfl | rfl⟩
        · exact (crash_still hd a1 a2).1
        · exact (crash_put hd a1 a2 hz hj.1 (by omega) k2).1
        · exact (crash_wrote hd hz hj.1 (by omega) k2).1
      · rcases e2 with rfl | ⟨_, rfl | rfl⟩
        · exact (crash_still hd a1 a2).2.1
        · exact (crash_put hd a1 a2 hz hj.1 (by omega) k2).2.1
        · exact (crash_wrote hd hz hj.1 (by omega) k2).2.1
      · rcases e2 with rfl | ⟨_, rfl | rfl⟩
        · exact .inl (crash_still hd a1 a2).2.2
        · exact (crash_put hd a1 a2 hz hj.1 (by omega) k2).2.2
        · exact .inr (crash_wrote hd hz hj.1 (by omega) k2).2.2
      · rw [e3 hE0 hlive]
        exact (crash_wrote hd hz hj.1 (by omega) k2).2.2
  have hlen : b'.M.length = p.M.length := hp.len
  have hdead : ∀ i, (b'.at i).dead = (p.at i).dead := fun i => by
    unfold By.at
    rw [List.getD_eq_getElem?_getD, List.getD_eq_getElem?_getD]
    cases e : p.M[i]? with
    | none =>
      have : b'.M[i]? = none := List.getElem?_eq_none (by rw [hlen]; exact List.getElem?_eq_none_iff.1 e)
      rw [this]
    | some m =>
      obtain ⟨m', h1, h2⟩ := hdd i m e
      rw [h1]; exact h2
  have hback : ∀ (i : Nat) m, p.M[i]? = some m → m.dead = false → ∃ m', (b'.crash KS).M[i]? = some m' ∧ m'.dead = false := fun i m hm hd => by
    obtain ⟨m', h1, h2⟩ := hdd i m hm
    exact ⟨_, crash_at h1, (crash_dead _ _).trans (h2.trans hd)⟩
  obtain ⟨kk, hkk⟩ : ∃ kk : Nat, kk = j.toNat := ⟨_, rfl⟩
  rw [← hkk] at hcr
  have hk2 : kk < 2 := by omega
  have hkj : (kk : Int) = (nx l l0).ep % 2 := by rw [nx_ep]; omega
  by_cases hany : ∃ (i : Nat) (m m' : Mb), p.M[i]? = some m ∧ m.dead = false ∧ (b'.crash KS).M[i]? = some m' ∧ m'.now = m.now.set kk s
  · refine ⟨nx l l0, .inr rfl, fun _ => rfl, ⟨fun i m' hm' => ?_, fun i m' hm' hd' => ?_, ?_⟩, hlen, hdead⟩
    · obtain ⟨m, _, _, h3, _⟩ := hcr i m' hm'
      exact h3
    · obtain ⟨m, hm, h2, _, h4⟩ := hcr i m' hm'
      have hd := h2.symm.trans hd'
      obtain ⟨c1, c2, c3, _⟩ := h4 hd
      refine ⟨c1, c2, fun k hk => ?_⟩
      obtain ⟨s0, hs0, ho⟩ := (h.alive i m hm hd).2.2 k hk
      have hz := h.size i m hm
      have hlow : (tl s0).ep < (nx l l0).ep := by rw [nx_ep]; rcases ho with ho | ho; rw [ho]; omega; omega
      rcases c3 with c3 | c3
      · exact ⟨s0, by rw [c3]; exact hs0, .inr hlow⟩
      · by_cases e : kk = k
        · subst e
          exact ⟨s, by rw [c3, List.getElem?_set_self (by omega)], .inl k1⟩
        · exact ⟨s0, by rw [c3, List.getElem?_set_ne e]; exact hs0, .inr hlow⟩
    · obtain ⟨i, m, m', hm, hd, hm', he⟩ := hany
      obtain ⟨m2, e2, h2, _⟩ := hcr i m' hm'
      rw [hm] at e2; cases e2
      have hz := h.size i m hm
      exact ⟨i, m', kk, s, hm', h2.trans hd, hk2, hkj, by rw [he, List.getElem?_set_self (by omega)], k1⟩
  · refine ⟨l, .inl rfl, fun hE0 => ?_, ⟨fun i m' hm' => ?_, fun i m' hm' hd' => ?_, ?_⟩, hlen, hdead⟩
    · obtain ⟨i, m, _, _, hm, hd, _⟩ := h.one
      obtain ⟨m', hm', _⟩ := hback i m hm hd
      obtain ⟨m2, e2, _, _, h4⟩ := hcr i m' hm'
      rw [hm] at e2; cases e2
      exact (hany ⟨i, m, m', hm, hd, hm', (h4 hd).2.2.2 hE0⟩).elim
    · obtain ⟨m, _, _, h3, _⟩ := hcr i m' hm'
      exact h3
    · obtain ⟨m, hm, h2, _, h4⟩ := hcr i m' hm'
      have hd := h2.symm.trans hd'
      obtain ⟨c1, c2, c3, _⟩ := h4 hd
      have c4 : m'.now = m.now := c3.resolve_right fun e => hany ⟨i, m, m', hm, hd, hm', e⟩
      exact ⟨c1, c2, by rw [c4]; exact (h.alive i m hm hd).2.2⟩
    · obtain ⟨i, m, k, s0, hm, hd, hk, hke, hs0, hl⟩ := h.one
      obtain ⟨m', hm', hd'⟩ := hback i m hm hd
      obtain ⟨m2, e2, _, _, h4⟩ := hcr i m' hm'
      rw [hm] at e2; cases e2
      have c4 : m'.now = m.now := (h4 hd).2.2.1.resolve_right fun e => hany ⟨i, m, m', hm, hd, hm', e⟩
      exact ⟨i, m', k, s0, hm', hd', hk, hke, by rw [c4]; exact hs0, hl⟩
/-! The law. -/
/-- What is so behind the crash: opened again, its lists are those ahead but for one member; those behind the change if it was fine. -/
structure Aft (l : Lb) (x' : Bd) (E : Int) (i : Int) (bc : By) : Prop where
  f : openE bc 110 = 0
  ep : l.ep < (openNow bc 110).ep
  eq : ∀ j : Nat, (j : Int) ≠ i → (openNow bc 110).st[j]? = l.st[j]? ∧ (openNow bc 110).mr[j]? = l.mr[j]?
  ok : E = 0 → (openNow bc 110).st = x'.l.st ∧ (openNow bc 110).mr = x'.l.mr
theorem Inv.old {b : By} {n : Nat} {l : Lb} (h : Inv b n l) (hlv : b.live ≠ []) : Old b n l := by
  refine ⟨h.size, fun i m hm hd => ?_, ?_⟩
  · obtain ⟨h1, h2, h3⟩ := h.alive i m hm hd
    refine ⟨h1, h2, fun k hk => ?_⟩
    obtain ⟨s, hs, h4⟩ := h3 k hk
    exact ⟨s, hs, h4.imp (fun x => x.2) (fun x => x.2)⟩
  · obtain ⟨i, hi⟩ := List.exists_mem_of_ne_nil _ hlv
    obtain ⟨m, hm, hd⟩ := mem_live.1 hi
    have h1 := h.ok.e1
    obtain ⟨k, hk, hk2⟩ : ∃ k : Nat, k < 2 ∧ (k : Int) = l.ep % 2 := ⟨(l.ep % 2).toNat, by omega, by omega⟩
    obtain ⟨s, hs, h4⟩ := (h.alive i m hm hd).2.2 k hk
    refine ⟨i, m, k, s, hm, hd, hk, hk2, hs, ?_⟩
    rcases h4 with ⟨_, h4⟩ | ⟨h4, _⟩
    · exact h4
    · exact (h4 hk2).elim
/-- Opened behind the crash. -/
theorem aft_open {bc : By} {ls : Lb} (h : Old bc 110 ls) (hs : bc.set = false) (ok : ls.Ok) (hlen : (bc.M.length : Int) = ls.m) (hr : 100 + ls.t ≤ 110) (he : ls.ep + 1 ≤ 9007199254740992) :
    openE bc 110 = 0 ∧ openNow bc 110 = nx ls (deads bc ls bc.M.length) := by
  have h1 := ok.e1
  obtain ⟨g1, g2, _⟩ := open_on h.pre hs ok (h.newl hs (by omega) (by omega)) h.live hlen hr he
  exact ⟨g1, g2⟩
theorem nx_lists (l l0 : Lb) : (nx l l0).st = l0.st ∧ (nx l l0).mr = l0.mr ∧ (nx l l0).m = l0.m ∧ (nx l l0).t = l0.t := ⟨rfl, rfl, rfl, rfl⟩
/-- Nothing was to be told. -/
theorem aft_still {b p : By} {l : Lb} {x' : Bd} {E i : Int} (h : Inv b 110 l) (hp : Old p 110 l) (hlen : p.M.length = b.M.length) (hd : ∀ j, j < l.st.length → (p.at j).dead = true → l.st[j]? = some 1) (he : l.ep + 1 ≤ 9007199254740992) (KS : List (List Nat)) (hx : E = 0 → x'.l = l) : Aft l x' E i (p.crash KS) := by
  have hm : ((p.crash KS).M.length : Int) = l.m := by rw [crash_len, hlen]; exact h.len
  obtain ⟨g1, g2⟩ := aft_open (hp.crash KS) rfl h.ok hm h.room he
  have hs : deads (p.crash KS) l (p.crash KS).M.length = l := deads_same h.ok (fun j hj e => hd j hj (by rw [dead_crash] at e; exact e)) _
  rw [hs] at g2
  refine ⟨g1, by rw [g2, nx_ep]; omega, fun j _ => by rw [g2]; exact ⟨rfl, rfl⟩, fun e => by rw [g2, hx e]; exact ⟨rfl, rfl⟩⟩
/-- A label was told. -/
theorem aft_pub {b p : By} {l : Lb} {i k mark : Int} (h : Inv b 110 l) (hp : Old p 110 l) (hlen : p.M.length = b.M.length) (hi : 0 ≤ i ∧ i < l.m) (hk : okAt l.t k mark = true)
    (hd : ∀ j, j < l.st.length → (p.at j).dead = true → (j : Int) ≠ i → l.st[j]? = some 1) (hd2 : (p.at i.toNat).dead = true → k = 1 ∨ l.st[i.toNat]? = some 1 ∧ False)
    (he : l.ep + 2 ≤ 9007199254740992) (KS : List (List Nat)) :
    Aft l ⟨pubB p l (setL l i.toNat k mark), pubL p l (setL l i.toNat k mark)⟩ (pubE p l (setL l i.toNat k mark)) i ((pubB p l (setL l i.toNat k mark)).crash KS) := by
  have h1 := h.ok.e1
  have hst := h.ok.st
  have hmr := h.ok.mr
  have hok := ok_set h.ok i.toNat k mark hk (by omega)
  obtain ⟨ls, hls, hE, ho, hl2, hdd⟩ := pub_crash hp (by omega) h1 (by omega) hok KS
  obtain ⟨b', hb'⟩ : ∃ b', b' = pubB p l (setL l i.toNat k mark) := ⟨_, rfl⟩
  rw [← hb'] at ho hl2 hdd ⊢
  have hm : ((b'.crash KS).M.length : Int) = l.m := by rw [crash_len, hl2, hlen]; exact h.len
  have hdead : ∀ j, ((b'.crash KS).at j).dead = (p.at j).dead := fun j => (dead_crash b' KS j).trans (hdd j)
  rcases hls with rfl | rfl
  · -- the one ahead
    obtain ⟨g1, g2⟩ := aft_open ho rfl h.ok hm h.room (by omega)
    have ha := deads_at (b'.crash KS) ls (by omega) (b'.crash KS).M.length
    refine ⟨g1, by rw [g2, nx_ep]; omega, fun j hj => ?_, fun e => ?_⟩
    · rw [g2]
      show (deads (b'.crash KS) ls _).st[j]? = _ ∧ (deads (b'.crash KS) ls _).mr[j]? = _
      rw [(ha j).1, (ha j).2]
      split
      · rename_i c
        have c1 := hd j c.2.2 (by rw [← hdead j]; exact c.2.1) hj
        have c2 := (okAt_iff _ _ _).1 (h.ok.at_ j c.2.2)
        rw [List.getD_eq_getElem?_getD, c1, List.getD_eq_getElem?_getD, List.getElem?_eq_getElem (by omega)] at c2
        rw [c1, List.getElem?_eq_getElem (by omega)]
        simp only [Option.getD_some] at c2
        rw [show ls.mr[j]'(by omega) = 0 by omega]
        exact ⟨rfl, rfl⟩
      · exact ⟨rfl, rfl⟩
    · have e2 := hE e
      have := congrArg Lb.ep e2
      rw [nx_ep] at this
      omega
  · -- the one behind
    have hm2 : ((b'.crash KS).M.length : Int) = (nx l (setL l i.toNat k mark)).m := hm
    obtain ⟨g1, g2⟩ := aft_open ho rfl hok hm2 h.room (by rw [nx_ep]; omega)
    have hs : deads (b'.crash KS) (nx l (setL l i.toNat k mark)) (b'.crash KS).M.length = nx l (setL l i.toNat k mark) := deads_same hok (fun j hj e => by
      have hj : j < (l.st.set i.toNat k).length := hj
      rw [List.length_set] at hj
      rw [hdead] at e
      show (l.st.set i.toNat k)[j]? = some 1
      by_cases ej : i.toNat = j
      · subst ej
        rw [List.getElem?_set_self (by omega)]
        rcases hd2 e with e | ⟨_, e⟩
        · rw [e]
        · exact e.elim
      · rw [List.getElem?_set_ne ej]
        exact hd j hj e (by omega)) _
    rw [hs] at g2
    refine ⟨g1, by rw [g2, nx_ep, nx_ep]; omega, fun j hj => ?_, fun e => ?_⟩
    · rw [g2]
      show (l.st.set i.toNat k)[j]? = _ ∧ (l.mr.set i.toNat mark)[j]? = _
      rw [List.getElem?_set_ne (by omega), List.getElem?_set_ne (by omega)]
      exact ⟨rfl, rfl⟩
    · rw [g2]
      have : pubL p l (setL l i.toNat k mark) = nx l (setL l i.toNat k mark) := by unfold pubL; rw [e]; rfl
      show _ = (pubL p l (setL l i.toNat k mark)).st ∧ _ = (pubL p l (setL l i.toNat k mark)).mr
      rw [this]
      exact ⟨rfl, rfl⟩
theorem at_on_ne {b : By} {i j : Nat} {m : Mb} (h : i ≠ j) : (b.on i m).at j = b.at j := by
  unfold By.at
  rw [List.getD_eq_getElem?_getD, List.getD_eq_getElem?_getD, on_ne h]
theorem at_on {b : By} {i : Nat} {m : Mb} (h : i < b.M.length) : (b.on i m).at i = m := at_eq (on_at (List.getElem?_eq_getElem h))
theorem other_live {b : By} (h : 2 ≤ b.live.length) (i : Nat) : ∃ j ∈ b.live, j ≠ i := by
  have hn := live_nodup b
  cases hl : b.live with
  | nil => rw [hl] at h; simp at h
  | cons x r =>
    cases r with
    | nil => rw [hl] at h; simp at h
    | cons y r =>
      rw [hl] at hn
      by_cases e : x = i
      · refine ⟨y, by simp, fun e2 => ?_⟩
        have := (List.nodup_cons.1 hn).1
        exact this (by rw [e, ← e2]; simp)
      · exact ⟨x, by simp, e⟩
theorem Inv.has {b : By} {n : Nat} {l : Lb} (h : Inv b n l) {j : Nat} (hj : j ∈ b.live) : ∃ (m : Mb) (k : Nat) (s : ByteArray), b.M[j]? = some m ∧ m.dead = false ∧ k < 2 ∧ (k : Int) = l.ep % 2 ∧ m.now[k]? = some s ∧ tl s = l := by
  obtain ⟨m, hm, hd⟩ := mem_live.1 hj
  have h1 := h.ok.e1
  obtain ⟨k, hk, hk2⟩ : ∃ k : Nat, k < 2 ∧ (k : Int) = l.ep % 2 := ⟨(l.ep % 2).toNat, by omega, by omega⟩
  obtain ⟨s, hs, h4⟩ := (h.alive j m hm hd).2.2 k hk
  refine ⟨m, k, s, hm, hd, hk, hk2, hs, ?_⟩
  rcases h4 with ⟨_, h4⟩ | ⟨h4, _⟩
  · exact h4
  · exact (h4 hk2).elim
theorem old_off {b : By} {n : Nat} {l : Lb} (h : Inv b n l) (h2 : 2 ≤ b.live.length) (i : Nat) : Old (b.on i (b.at i).fail) n l := by
  have hlv : b.live ≠ [] := fun e => by rw [e] at h2; simp at h2
  have ho := h.old hlv
  obtain ⟨j, hj, hji⟩ := other_live h2 i
  obtain ⟨m, k, s, a1, a2, a3, a4, a5, a6⟩ := h.has hj
  refine ⟨fun j m hm => ?_, fun j m hm hd => ?_, ⟨j, m, k, s, by rw [on_ne (fun e => hji e.symm)]; exact a1, a2, a3, a4, a5, a6⟩⟩
  · obtain ⟨m0, h0, ⟨_, rfl⟩ | ⟨_, rfl⟩⟩ := off_M (f := Mb.fail) hm
    · exact ho.size j m0 h0
    · exact ho.size j _ h0
  · obtain ⟨m0, h0, ⟨_, rfl⟩ | ⟨_, rfl⟩⟩ := off_M (f := Mb.fail) hm
    · cases hd
    · exact ho.alive j _ h0 hd
theorem old_anew {b : By} {n : Nat} {l : Lb} (h : Inv b n l) (h2 : b.live ≠ []) (i : Nat) (hi : (b.at i).dead = true) : Old (b.on i (b.at i).replace) n l := by
  have ho := h.old h2
  have he := h.ok.e1
  have htwo : 2 ≤ n := by have := h.room; have := h.ok.t1; omega
  obtain ⟨j, hj⟩ := List.exists_mem_of_ne_nil _ h2
  obtain ⟨m, k, s, a1, a2, a3, a4, a5, a6⟩ := h.has hj
  have hji : i ≠ j := fun e => by rw [e, at_eq a1, a2] at hi; cases hi
  refine ⟨fun j m hm => ?_, fun j m hm hd => ?_, ⟨j, m, k, s, by rw [on_ne hji]; exact a1, a2, a3, a4, a5, a6⟩⟩
  · obtain ⟨m0, h0, ⟨_, rfl⟩ | ⟨_, rfl⟩⟩ := off_M (f := Mb.replace) hm
    · show (Member.blank m0.now.length).length = n
      rw [blank_length]; exact ho.size j m0 h0
    · exact ho.size j _ h0
  · obtain ⟨m0, h0, ⟨_, rfl⟩ | ⟨_, rfl⟩⟩ := off_M (f := Mb.replace) hm
    · refine ⟨rfl, rfl, fun k hk => ⟨z64, ?_, .inr (by rw [tl_zero]; omega)⟩⟩
      show (Member.blank m0.now.length)[k]? = some z64
      unfold Member.blank
      rw [List.getElem?_replicate, if_pos (by rw [ho.size j m0 h0]; omega)]
    · exact ho.alive j _ h0 hd
theorem Old.cut {b : By} {n : Nat} {l : Lb} (h : Old b n l) (c : Int) : Old (b.cut c) n l := ⟨h.size, h.alive, h.one⟩
section
variable {b : By} {l : Lb}
theorem Inv.deadSt (h : Inv b 110 l) (j : Nat) (hj : j < l.st.length) (hd : (b.at j).dead = true) : l.st[j]? = some 1 := by
  have h2 := h.ok.st
  have h3 := h.len
  have hm := List.getElem?_eq_getElem (show j < b.M.length by omega)
  rw [at_eq hm] at hd
  exact (h.dead j _ hm).1 hd
theorem aft_fail (h : Inv b 110 l) (h2 : 2 ≤ b.live.length) (he : l.ep + 2 ≤ 9007199254740992) (c i : Int) (KS : List (List Nat)) : Aft l ((Bd.mk (b.cut c) l).fail i) ((Bd.mk (b.cut c) l).failE i) i (((Bd.mk (b.cut c) l).fail i).b.crash KS) := by
  have hlv : b.live ≠ [] := fun e => by rw [e] at h2; simp at h2
  have hst := h.ok.st
  have hlen := h.len
  unfold Bd.fail Bd.failE
  by_cases hin : inE l i = 0
  · have h0 := (inE_iff _ _).1 hin
    have hc : ¬ inE (Bd.mk (b.cut c) l).l i ≠ 0 := by simpa using hin
    rw [if_neg hc, if_neg hc]
    have hat : ∀ j, j < l.st.length → (((b.cut c).on i.toNat ((b.cut c).at i.toNat).fail).at j).dead = true → (j : Int) ≠ i → l.st[j]? = some 1 := fun j hj e hji => by
      rw [at_on_ne (by omega)] at e
      exact h.deadSt j hj e
    cases hk : (Bd.mk (b.cut c) l).known i with
    | true =>
      rw [if_pos rfl, if_pos rfl]
      unfold Bd.known at hk
      rw [Bool.and_eq_true, decide_eq_true_eq] at hk
      exact aft_still h ((old_off h h2 i.toNat).cut c) (By.on_length ..) (fun j hj e => by
        by_cases ej : (j : Int) = i
        · have e2 : i.toNat = j := by omega
          subst e2
          exact h.deadSt i.toNat hj hk.1
        · exact hat j hj e ej) (by omega) KS (fun _ => rfl)
    | false =>
      rw [if_neg (by decide), if_neg (by decide)]
      exact aft_pub (p := ((Bd.mk (b.cut c) l).off i).b) h ((old_off h h2 i.toNat).cut c) (By.on_length ..) h0 (ok_gone _ h.ok.t1) hat (fun _ => .inl rfl) he KS
  · rw [if_pos hin, if_pos hin]
    exact aft_still h ((h.old hlv).cut c) rfl (fun j hj e => h.deadSt j hj e) (by omega) KS (fun e => by cases e)
theorem aft_replace (h : Inv b 110 l) (hlv : b.live ≠ []) (he : l.ep + 2 ≤ 9007199254740992) (c i : Int) (KS : List (List Nat)) : Aft l ((Bd.mk (b.cut c) l).replace i) ((Bd.mk (b.cut c) l).replaceE i) i (((Bd.mk (b.cut c) l).replace i).b.crash KS) := by
  have hst := h.ok.st
  have hlen := h.len
  unfold Bd.replace Bd.replaceE
  by_cases hin : inE l i = 0
  · have h0 := (inE_iff _ _).1 hin
    have hc : ¬ inE (Bd.mk (b.cut c) l).l i ≠ 0 := by simpa using hin
    rw [if_neg hc, if_neg hc]
    by_cases hs : stAt l i = 1
    · have hc2 : ¬ stAt (Bd.mk (b.cut c) l).l i ≠ 1 := by simpa using hs
      rw [if_neg hc2, if_neg hc2]
      have hk : okAt l.t 2 0 = true := by rw [okAt_iff]; have := h.ok.t1; omega
      have hss := stAt_some h0.1 (by omega) hs
      have hdi : (b.at i.toNat).dead = true := by
        have hm := List.getElem?_eq_getElem (show i.toNat < b.M.length by omega)
        rw [at_eq hm]
        exact (h.dead _ _ hm).2 hss
      exact aft_pub (p := ((Bd.mk (b.cut c) l).anew i).b) h ((old_anew h hlv i.toNat hdi).cut c) (By.on_length ..) h0 hk (fun j hj e hji => by
        have e : (((b.cut c).on i.toNat ((b.cut c).at i.toNat).replace).at j).dead = true := e
        rw [at_on_ne (by omega)] at e
        exact h.deadSt j hj e) (fun e => by
        have e : (((b.cut c).on i.toNat ((b.cut c).at i.toNat).replace).at i.toNat).dead = true := e
        rw [at_on (by show i.toNat < b.M.length; omega)] at e
        cases e) he KS
    · rw [if_pos hs, if_pos hs]
      exact aft_still h ((h.old hlv).cut c) rfl (fun j hj e => h.deadSt j hj e) (by omega) KS (fun e => by cases e)
  · rw [if_pos hin, if_pos hin]
    exact aft_still h ((h.old hlv).cut c) rfl (fun j hj e => h.deadSt j hj e) (by omega) KS (fun e => by cases e)
theorem aft_advance (h : Inv b 110 l) (hlv : b.live ≠ []) (he : l.ep + 2 ≤ 9007199254740992) (c i a : Int) (KS : List (List Nat)) : Aft l ((Bd.mk (b.cut c) l).advance i a) ((Bd.mk (b.cut c) l).advanceE i a) i (((Bd.mk (b.cut c) l).advance i a).b.crash KS) := by
  have hst := h.ok.st
  have hlen := h.len
  unfold Bd.advance Bd.advanceE
  by_cases hm : (Bd.mk (b.cut c) l).may i a = 0
  · have hc : ¬ (Bd.mk (b.cut c) l).may i a ≠ 0 := by simpa using hm
    rw [if_neg hc, if_neg hc, far_is]
    obtain ⟨h0, _, _, h3⟩ := may_zero hm
    have h0 : 0 ≤ i ∧ i < l.m := h0
    have h3 : stAt l i = 2 := h3
    have hss := stAt_some h0.1 (by omega) h3
    have hf := far_ok (x := ⟨b, l⟩) (i := i) (k := a) h hm
    exact aft_pub (p := b.cut c) h ((h.old hlv).cut c) rfl h0 hf (fun j hj e _ => h.deadSt j hj e) (fun e => by
      have := h.deadSt i.toNat (by omega) e
      rw [hss] at this
      cases this) he KS
  · rw [if_pos hm, if_pos hm]
    exact aft_still h ((h.old hlv).cut c) rfl (fun j hj e => h.deadSt j hj e) (by omega) KS (fun e => (hm e).elim)
end
end Go.Proofs.YtbbhcmfkkkjehaaGreat.Brd
