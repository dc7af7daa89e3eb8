/- A new array, with the power on. No program is named here. -/
import Derived.Test.YtbbhcmfkkkjehaaGreatBdT
namespace Go.Proofs.YtbbhcmfkkkjehaaGreat.Brd
open Go.RowKit Go.Proofs.YtbbhcmfkkkjehaaGreat.Mem Go.Proofs.YtbbhcmfkkkjehaaGreat.Sep Go.Proofs.YtbbhcmfkkkjehaaGreat.Member Go.Proofs.YtbbhcmfkkkjehaaGreat.Bay Go.Proofs.YtbbhcmfkkkjehaaGreat.Lab Go.Proofs.YtbbhcmfkkkjehaaGreat.B8 Go.Proofs.YtbbhcmfkkkjehaaGreat.CrcS Go.Proofs.YtbbhcmfkkkjehaaGreat.Num
set_option linter.unusedVariables false
set_option linter.unusedSimpArgs false

section
variable {b b0 : By} {i n : Nat} {m : Mb} {j : Int} {s z : ByteArray}
theorem write_on (hs : b.set = false) (hm : b.M[i]? = some m) (hd : m.dead = false) (hl : m.now.length = n) (h0 : 0 ≤ j) (h1 : j < n) (h64 : s.size = 64) : b.writeE i j s = 0 ∧ b.write i j s = b.step.on i (m.put j s) := by
  have hp := put_yes hd hl h0 h1 h64
  have ht := there_of hm
  have he := step_off hs
  refine ⟨?_, ?_⟩
  · unfold By.writeE
    rw [ht, he, if_neg (by simp), if_neg (by simp), Int.toNat_natCast, at_eq hm, hp.1]
  · unfold By.write
    rw [ht, he, if_neg (by simp), if_neg (by simp), Int.toNat_natCast, at_eq hm]
theorem flush_on (hs : b.set = false) (hm : b.M[i]? = some m) (hd : m.dead = false) : b.flushE i = 0 ∧ b.flush i = b.step.on i m.flush := by
  have ht := there_of hm
  have he := step_off hs
  refine ⟨?_, ?_⟩
  · unfold By.flushE
    rw [ht, he, if_neg (by simp), if_neg (by simp), Int.toNat_natCast, at_eq hm]
    unfold Mb.flushE
    rw [hd]; rfl
  · unfold By.flush
    rw [ht, he, if_neg (by simp), if_neg (by simp), Int.toNat_natCast, at_eq hm]
structure Cl (b0 b : By) (i n : Nat) (P : Mb → Prop) : Prop where
  set : b.set = false
  len : b.M.length = b0.M.length
  ne : ∀ k, k ≠ i → b.M[k]? = b0.M[k]?
  at_ : ∃ m, b.M[i]? = some m ∧ m.dead = false ∧ m.now.length = n ∧ P m
theorem Cl.on {P Q : Mb → Prop} (h : Cl b0 b i n P) (f : Mb → Mb) (hf : ∀ m, b.M[i]? = some m → m.dead = false → m.now.length = n → P m → (f m).dead = false ∧ (f m).now.length = n ∧ Q (f m)) : ∃ m, b.M[i]? = some m ∧ Cl b0 (b.step.on i (f m)) i n Q := by
  obtain ⟨m, hm, h1, h2, h3⟩ := h.at_
  refine ⟨m, hm, ?_⟩
  obtain ⟨k1, k2, k3⟩ := hf m hm h1 h2 h3
  exact ⟨(step_set b).trans h.set, by rw [By.on_length, step_M]; exact h.len, fun k hk => by rw [on_ne (fun e => hk e.symm), step_M]; exact h.ne k hk, _, on_at (by rw [step_M]; exact hm), k1, k2, k3⟩
theorem puts_on (hz : z.size = 64) : ∀ (ps : List Int) (b : By), (∀ p ∈ ps, 0 ≤ p ∧ p < n ∧ p ≠ 1) → Cl b0 b i n (fun m => m.now[0]? = some z) → (puts z i ps b).2 = 0 ∧ Cl b0 (puts z i ps b).1 i n (fun m => m.now[0]? = some z)
  | [], b, _, h => ⟨rfl, h⟩
  | p :: ps, b, hp, h => by
    obtain ⟨p0, p1, p2⟩ := hp p (List.mem_cons_self ..)
    obtain ⟨m, hm, hc⟩ := h.on (Q := fun m => m.now[0]? = some z) (fun m => m.put p z) (fun m hm hd hl h0 => by
      have e := put_yes hd hl p0 p1 hz
      rw [e.2]
      refine ⟨hd, by rw [List.length_set]; exact hl, ?_⟩
      dsimp only
      by_cases e0 : p.toNat = 0
      · rw [e0, List.getElem?_set_self (by omega)]
      · rw [List.getElem?_set_ne e0]; exact h0)
    obtain ⟨m', hm', h1, h2, _⟩ := h.at_
    rw [hm] at hm'; cases hm'
    obtain ⟨w1, w2⟩ := write_on h.set hm h1 h2 p0 p1 hz
    unfold puts
    rw [w1, if_neg (by simp), w2]
    exact puts_on hz ps _ (fun q hq => hp q (List.mem_cons_of_mem _ hq)) hc
/-- A member of a new array. -/
def Cln (n : Nat) (s z : ByteArray) (m : Mb) : Prop := m.dead = false ∧ m.now.length = n ∧ m.now[0]? = some z ∧ m.now[1]? = some s ∧ m.q = [] ∧ m.las = m.now
theorem places_in {t : Nat} (h4 : 4 ≤ n) (ht : 100 + (t : Int) ≤ n) : ∀ p ∈ places t, 0 ≤ p ∧ p < n ∧ p ≠ 1 := fun p hp => by
  unfold places at hp
  rcases List.mem_append.1 hp with h | h
  · simp at h; omega
  · obtain ⟨k, hk, rfl⟩ := List.mem_map.1 h
    have := List.mem_range.1 hk
    omega
theorem clean_on {t : Nat} (hz : z.size = 64) (h64 : s.size = 64) (h4 : 4 ≤ n) (ht : 100 + (t : Int) ≤ n) (h : Cl b0 b i n (fun m => m.now[0]? = some z)) :
    (clean s z t i b).2 = 0 ∧ Cl b0 (clean s z t i b).1 i n (Cln n s z) := by
  obtain ⟨h1, h2⟩ := puts_on hz (places t) b (places_in h4 ht) h
  unfold clean
  dsimp only
  rw [if_neg (by simpa using h1)]
  obtain ⟨b1, hb1⟩ : ∃ b1, b1 = (puts z i (places t) b).1 := ⟨_, rfl⟩
  rw [← hb1] at h2 ⊢
  obtain ⟨m, hm, hd, hl, h0⟩ := h2.at_
  obtain ⟨w1, w2⟩ := write_on (j := 1) h2.set hm hd hl (by omega) (by omega) h64
  rw [if_neg (by simpa using w1), w2]
  obtain ⟨m', hm', hc⟩ := h2.on (Q := fun m => m.now[0]? = some z ∧ m.now[1]? = some s) (fun m => m.put 1 s) (fun m hm hd hl h0 => by
    have e := put_yes (j := 1) hd hl (by omega) (by omega) h64
    rw [e.2]
    refine ⟨hd, by rw [List.length_set]; exact hl, ?_, ?_⟩
    · dsimp only
      rw [List.getElem?_set_ne (by decide)]; exact h0
    · dsimp only
      exact List.getElem?_set_self (by show (1 : Int).toNat < _; rw [hl]; show 1 < n; omega))
  rw [hm] at hm'; cases hm'
  obtain ⟨b2, hb2⟩ : ∃ b2, b2 = b1.step.on i (m.put 1 s) := ⟨_, rfl⟩
  rw [← hb2] at hc ⊢
  obtain ⟨m2, hm2, hd2, hl2, h02⟩ := hc.at_
  obtain ⟨f1, f2⟩ := flush_on hc.set hm2 hd2
  rw [f1, f2]
  obtain ⟨m3, hm3, hc3⟩ := hc.on (Q := Cln n s z) (fun m => m.flush) (fun m hm hd hl h0 => by
    have e : m.flush = { m with las := m.now, q := [], f := wrap64 (m.f + 1) } := by unfold Mb.flush; rw [if_neg (by rw [hd]; decide)]
    rw [e]
    exact ⟨hd, hl, hd, hl, h0.1, h0.2, rfl, rfl⟩)
  rw [hm2] at hm3; cases hm3
  exact ⟨rfl, hc3⟩
theorem cleans_all {t : Nat} (hz : z.size = 64) (h64 : s.size = 64) (h4 : 4 ≤ n) (ht : 100 + (t : Int) ≤ n) : ∀ (ms : List Nat) (b : By), ms.Nodup → b.set = false → (∀ i ∈ ms, ∃ m, b.M[i]? = some m ∧ m.dead = false ∧ m.now.length = n ∧ m.now[0]? = some z) →
    (cleans s z t ms b).2 = 0 ∧ (cleans s z t ms b).1.set = false ∧ (cleans s z t ms b).1.M.length = b.M.length ∧ (∀ i, i ∉ ms → (cleans s z t ms b).1.M[i]? = b.M[i]?) ∧ ∀ i ∈ ms, ∃ m, (cleans s z t ms b).1.M[i]? = some m ∧ Cln n s z m
  | [], b, _, hs, _ => ⟨rfl, hs, rfl, fun _ _ => rfl, fun i hi => by simp at hi⟩
  | k :: ms, b, hn, hs, ha => by
    obtain ⟨hk, hn⟩ := List.nodup_cons.1 hn
    obtain ⟨m, hm, hd, hl, h0⟩ := ha k (List.mem_cons_self ..)
    obtain ⟨c1, c2⟩ := clean_on (t := t) hz h64 h4 ht (b0 := b) (b := b) (i := k) (n := n) ⟨hs, rfl, fun _ _ => rfl, m, hm, hd, hl, h0⟩
    unfold cleans
    rw [if_neg (by simpa using c1)]
    obtain ⟨b1, hb1⟩ : ∃ b1, b1 = (clean s z t k b).1 := ⟨_, rfl⟩
    rw [← hb1] at c2 ⊢
    have ih := cleans_all hz h64 h4 ht ms b1 hn c2.set (fun i hi => by
      rw [c2.ne i (fun e => hk (e ▸ hi))]
      exact ha i (List.mem_cons_of_mem _ hi))
    refine ⟨ih.1, ih.2.1, ih.2.2.1.trans c2.len, fun i hi => ?_, fun i hi => ?_⟩
    · have h1 : i ≠ k := fun e => hi (by rw [e]; exact List.mem_cons_self ..)
      rw [ih.2.2.2.1 i (fun h => hi (List.mem_cons_of_mem _ h)), c2.ne i h1]
    · rcases List.mem_cons.1 hi with rfl | h
      · rw [ih.2.2.2.1 i hk]
        obtain ⟨m', e1, _, _, e2⟩ := c2.at_
        exact ⟨m', e1, e2⟩
      · exact ih.2.2.2.2 i h
end
theorem live_all {b : By} (h : ∀ (i : Nat) m, b.M[i]? = some m → m.dead = false) : b.live = List.range b.M.length := by
  unfold By.live
  refine List.filter_eq_self.2 fun i hi => ?_
  have hm := List.getElem?_eq_getElem (List.mem_range.1 hi)
  rw [at_eq hm, h i _ hm]; rfl
theorem fresh_is {N : Nat} {t : Int} (hg : ggood N t = true) : fresh N t = ⟨N, t, 1, List.replicate N 0, List.replicate N 0⟩ := by unfold fresh; rw [hg]; rfl
theorem fresh_ok {N : Nat} {t : Int} (hg : ggood N t = true) : (fresh N t).Ok := by
  rw [fresh_is hg]
  have h : 4 ≤ (N : Int) ∧ (N : Int) ≤ 32 ∧ 1 ≤ t ∧ t ≤ 64 := by unfold ggood at hg; simpa using hg
  refine ⟨h.1, h.2.1, h.2.2.1, h.2.2.2, by show (1 : Int) ≤ 1; omega, by show (1 : Int) ≤ 9007199254740992; omega, by simp, by simp, fun i hi => ?_⟩
  have hi : i < N := by simpa using hi
  show okAt t ((List.replicate N (0 : Int)).getD i 0) ((List.replicate N (0 : Int)).getD i 0) = true
  rw [List.getD_eq_getElem?_getD, List.getElem?_replicate, if_pos hi, okAt_iff]
  have := h.2.2.1
  simp only [Option.getD_some]
  omega
/-- A new array of fresh members. -/
theorem form_on {N n : Nat} {t : Int} (hg : ggood N t = true) (hr : 100 + t ≤ (n : Int)) :
    formE (By.fresh N n) n N t = 0 ∧ Inv (form (By.fresh N n) n N t) n (fresh N t) ∧ (form (By.fresh N n) n N t).M.length = N ∧ ∀ (i : Nat) m, (form (By.fresh N n) n N t).M[i]? = some m → m.dead = false := by
  have h : 4 ≤ (N : Int) ∧ (N : Int) ≤ 32 ∧ 1 ≤ t ∧ t ≤ 64 := by unfold ggood at hg; simpa using hg
  have hM : (By.fresh N n).M.length = N := by simp [By.fresh]
  have hat : ∀ (i : Nat) m, (By.fresh N n).M[i]? = some m → m = Mb.fresh n := fun i m hm => List.eq_of_mem_replicate (List.mem_of_getElem? hm)
  have hlive : (By.fresh N n).live = List.range N := by
    rw [live_all (b := By.fresh N n) fun i m hm => (by rw [hat i m hm]; rfl), hM]
  have hf : fits (By.fresh N n) n N t = true := by unfold fits; rw [hM, decide_eq_true rfl, decide_eq_true hr]; rfl
  have hok := fresh_ok hg
  obtain ⟨k1, k2⟩ := tl_put hok
  have hc := cleans_all (t := t.toNat) (z := z64) (s := bts (fresh N t).put) (n := n) z64_size k2 (by omega) (by omega) (List.range N) (By.fresh N n) List.nodup_range rfl (fun i hi => by
    have hi := List.mem_range.1 hi
    have hm := List.getElem?_eq_getElem (show i < (By.fresh N n).M.length by rw [hM]; exact hi)
    rw [hat i _ hm] at hm
    refine ⟨_, hm, rfl, blank_length n, ?_⟩
    show (Member.blank n)[0]? = some z64
    unfold Member.blank
    rw [List.getElem?_replicate, if_pos (by omega)])
  have e1 : formE (By.fresh N n) n N t = (cleans (bts (fresh N t).put) z64 t.toNat (List.range N) (By.fresh N n)).2 := by
    unfold formE
    rw [hg, hf, hlive, hM, if_neg (by decide), if_neg (by decide), List.length_range, if_neg (by omega)]
  have e2 : form (By.fresh N n) n N t = (cleans (bts (fresh N t).put) z64 t.toNat (List.range N) (By.fresh N n)).1 := by
    unfold form
    rw [hg, hf, hlive, hM, if_neg (by decide), if_neg (by decide), List.length_range, if_neg (by omega)]
  rw [e1, e2]
  obtain ⟨c1, c2, c3, c4, c5⟩ := hc
  obtain ⟨b', hb'⟩ : ∃ b', b' = (cleans (bts (fresh N t).put) z64 t.toNat (List.range N) (By.fresh N n)).1 := ⟨_, rfl⟩
  rw [← hb'] at c2 c3 c4 c5 ⊢
  have hlen := c3.trans hM
  have all : ∀ (i : Nat) m, b'.M[i]? = some m → Cln n (bts (fresh N t).put) z64 m := fun i m hm => by
    have hi := (List.getElem?_eq_some_iff.1 hm).1
    rw [hlen] at hi
    obtain ⟨m', e, h⟩ := c5 i (List.mem_range.2 hi)
    rw [hm] at e; cases e
    exact h
  refine ⟨c1, ⟨c2, hok, ?_, ?_, fun i m hm => (all i m hm).2.1, fun i m hm hd => ?_, fun i m hm => ?_⟩, hlen, fun i m hm => (all i m hm).1⟩
  · rw [hlen, fresh_is hg]
  · rw [fresh_is hg]; exact hr
  · obtain ⟨_, _, a0, a1, a2, a3⟩ := all i m hm
    refine ⟨a2, a3, fun k hk => ?_⟩
    have hep : (fresh N t).ep = 1 := by rw [fresh_is hg]
    rw [hep]
    rcases (show k = 0 ∨ k = 1 by omega) with rfl | rfl
    · exact ⟨_, a0, .inr ⟨by decide, by rw [tl_zero]; decide⟩⟩
    · exact ⟨_, a1, .inl ⟨by decide, k1⟩⟩
  · rw [(all i m hm).1, fresh_is hg]
    constructor
    · intro e; cases e
    · intro e
      have e : (List.replicate N (0 : Int))[i]? = some 1 := e
      rw [List.getElem?_replicate] at e
      split at e <;> cases e
end Go.Proofs.YtbbhcmfkkkjehaaGreat.Brd
