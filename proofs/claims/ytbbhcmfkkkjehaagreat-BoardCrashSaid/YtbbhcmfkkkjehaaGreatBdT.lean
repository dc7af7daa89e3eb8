/- What a board comes to with the power on: a new array, opened, changed. No program is named here. -/
import Derived.Test.YtbbhcmfkkkjehaaGreatBdQ
import Derived.Test.YtbbhcmfkkkjehaaGreatBdOp
namespace Go.Proofs.YtbbhcmfkkkjehaaGreat.Brd
open Go.RowKit Go.Proofs.YtbbhcmfkkkjehaaGreat.Mem Go.Proofs.YtbbhcmfkkkjehaaGreat.Sep Go.Proofs.YtbbhcmfkkkjehaaGreat.Member Go.Proofs.YtbbhcmfkkkjehaaGreat.Bay Go.Proofs.YtbbhcmfkkkjehaaGreat.Lab Go.Proofs.YtbbhcmfkkkjehaaGreat.B8 Go.Proofs.YtbbhcmfkkkjehaaGreat.CrcS Go.Proofs.YtbbhcmfkkkjehaaGreat.Num
set_option linter.unusedVariables false
set_option linter.unusedSimpArgs false

/-! A label changed. -/
theorem ok_set {l : Lb} (h : l.Ok) (i : Nat) (k mark : Int) (hk : okAt l.t k mark = true) (he : l.ep + 1 ≤ 9007199254740992) : (nx l (setL l i k mark)).Ok := by
  have h1 := h.e1
  refine ⟨h.m4, h.m32, h.t1, h.t64, by show 1 ≤ l.ep + 1; omega, he, ?_, ?_, fun j hj => ?_⟩
  · show ((l.st.set i k).length : Int) = l.m
    rw [List.length_set]; exact h.st
  · show ((l.mr.set i mark).length : Int) = l.m
    rw [List.length_set]; exact h.mr
  · have hj : j < (l.st.set i k).length := hj
    rw [List.length_set] at hj
    have h2 := h.st
    have h3 := h.mr
    show okAt l.t ((l.st.set i k).getD j 0) ((l.mr.set i mark).getD j 0) = true
    by_cases e : i = j
    · subst e
      rw [List.getD_eq_getElem?_getD, List.getD_eq_getElem?_getD, List.getElem?_set_self (by omega), List.getElem?_set_self (by omega)]
      exact hk
    · rw [List.getD_eq_getElem?_getD, List.getD_eq_getElem?_getD, List.getElem?_set_ne e, List.getElem?_set_ne e, ← List.getD_eq_getElem?_getD, ← List.getD_eq_getElem?_getD]
      exact h.at_ j hj
theorem ok_next {l : Lb} (h : l.Ok) (he : l.ep + 1 ≤ 9007199254740992) : (nx l l).Ok := by
  have h1 := h.e1
  exact ⟨h.m4, h.m32, h.t1, h.t64, by show 1 ≤ l.ep + 1; omega, he, h.st, h.mr, h.at_⟩
theorem ok_gone (t : Int) (ht : 1 ≤ t) : okAt t 1 0 = true := by rw [okAt_iff]; omega
/-! The newest label of the members. -/
theorem newl_is {b : By} {n : Nat} {l : Lb} (h0 : 0 < l.ep) (hn : 2 ≤ n) (hs : b.set = false) (hz : ∀ (i : Nat) m, b.M[i]? = some m → m.now.length = n)
    (hm : ∃ (i : Nat) (m : Mb) (k : Nat) (s : ByteArray), b.M[i]? = some m ∧ m.dead = false ∧ k < 2 ∧ m.now[k]? = some s ∧ tl s = l)
    (ha : ∀ (i : Nat) m, b.M[i]? = some m → m.dead = false → ∀ k : Nat, k < 2 → ∃ s, m.now[k]? = some s ∧ (tl s = l ∨ (tl s).ep < l.ep)) : newl b = l := by
  have hout : b.out = false := by unfold By.out; rw [hs]; rfl
  have key : ∀ (i : Nat) m, b.M[i]? = some m → m.dead = false → ∀ (k : Nat) s, k < 2 → m.now[k]? = some s → b.readE i k = 0 ∧ b.get i k = s := fun i m hi hd k s hk hks => by
    have hl := hz i m hi
    have hmay : m.may (k : Nat) = 0 := by unfold Mb.may; rw [hd, hl, if_neg (by decide), if_neg (by omega)]
    have ht := there_of hi
    refine ⟨?_, ?_⟩
    · unfold By.readE
      rw [ht, if_neg (by simp), if_neg (by rw [hout]; decide), Int.toNat_natCast, at_eq hi, hmay]
    · unfold By.get
      rw [ht, if_neg (by rw [hout]; simp), Int.toNat_natCast, at_eq hi]
      unfold Mb.get
      rw [hmay, if_pos rfl, Int.toNat_natCast, List.getD_eq_getElem?_getD, hks]; rfl
  have htx : ∀ (i : Nat) m, b.M[i]? = some m → m.dead = false → ∃ s0 s1, m.now[0]? = some s0 ∧ m.now[1]? = some s1 ∧ tx b i = [s0, s1] := fun i m hi hd => by
    obtain ⟨s0, e0, _⟩ := ha i m hi hd 0 (by omega)
    obtain ⟨s1, e1, _⟩ := ha i m hi hd 1 (by omega)
    obtain ⟨r0, g0⟩ := key i m hi hd 0 s0 (by omega) e0
    obtain ⟨r1, g1⟩ := key i m hi hd 1 s1 (by omega) e1
    have r0 : b.readE i 0 = 0 := r0
    have g0 : b.get i 0 = s0 := g0
    have r1 : b.readE i 1 = 0 := r1
    have g1 : b.get i 1 = s1 := g1
    exact ⟨s0, s1, e0, e1, by unfold tx; rw [r0, r1, g0, g1, if_pos rfl, if_pos rfl]; rfl⟩
  unfold newl
  refine newest_is h0 ?_ ?_
  · obtain ⟨i, m, k, s, hi, hd, hk, hks, hl⟩ := hm
    obtain ⟨s0, s1, e0, e1, ht⟩ := htx i m hi hd
    refine ⟨by8 s, List.mem_map.2 ⟨s, ?_, rfl⟩, hl⟩
    unfold txs
    refine List.mem_flatMap.2 ⟨i, mem_live.2 ⟨m, hi, hd⟩, ?_⟩
    rw [ht]
    rcases (show k = 0 ∨ k = 1 by omega) with rfl | rfl
    · rw [hks] at e0; cases e0; simp
    · rw [hks] at e1; cases e1; simp
  · intro x hx
    obtain ⟨s, hs, rfl⟩ := List.mem_map.1 hx
    unfold txs at hs
    obtain ⟨i, hi, hs⟩ := List.mem_flatMap.1 hs
    obtain ⟨m, hi, hd⟩ := mem_live.1 hi
    obtain ⟨s0, s1, e0, e1, ht⟩ := htx i m hi hd
    rw [ht] at hs
    have two : ∀ (k : Nat), k < 2 → m.now[k]? = some s → Lab.get (by8 s) = l ∨ (Lab.get (by8 s)).ep < l.ep := fun k hk h => by
      obtain ⟨s', h', hl⟩ := ha i m hi hd k hk
      rw [h] at h'; cases h'
      exact hl
    simp only [List.mem_cons, List.not_mem_nil, or_false] at hs
    rcases hs with rfl | rfl
    · exact two 0 (by omega) e0
    · exact two 1 (by omega) e1
/-! Who is dead has failed. -/
theorem deads_at (b : By) (l : Lb) (hs : l.st.length = l.mr.length) : ∀ k (i : Nat), (deads b l k).st[i]? = (if i < k ∧ (b.at i).dead = true ∧ i < l.st.length then some 1 else l.st[i]?) ∧ (deads b l k).mr[i]? = (if i < k ∧ (b.at i).dead = true ∧ i < l.st.length then some 0 else l.mr[i]?)
  | 0, i => by unfold deads; rw [if_neg (by omega), if_neg (by omega)]; exact ⟨rfl, rfl⟩
  | k + 1, i => by
    obtain ⟨h1, h2⟩ := deads_at b l hs k i
    have hd := deads_is b l k
    cases e : (b.at k).dead with
    | false =>
      rw [deads_live e, h1, h2]
      by_cases hi : i = k
      · subst hi
        rw [if_neg (by omega), if_neg (by rw [e]; simp), if_neg (by omega), if_neg (by rw [e]; simp)]
        exact ⟨rfl, rfl⟩
      · have : (i < k ∧ (b.at i).dead = true ∧ i < l.st.length) ↔ (i < k + 1 ∧ (b.at i).dead = true ∧ i < l.st.length) := by constructor <;> (rintro ⟨a, c⟩; exact ⟨by omega, c⟩)
        simp only [this]
        exact ⟨trivial, trivial⟩
    | true =>
      rw [deads_dead e]
      show ((deads b l k).st.set k 1)[i]? = _ ∧ ((deads b l k).mr.set k 0)[i]? = _
      by_cases hi : i = k
      · subst hi
        by_cases hl : i < l.st.length
        · rw [if_pos ⟨by omega, e, hl⟩, if_pos ⟨by omega, e, hl⟩, List.getElem?_set_self (by rw [hd.2.2.2.1]; exact hl), List.getElem?_set_self (by rw [hd.2.2.2.2]; omega)]
          exact ⟨rfl, rfl⟩
        · have n1 : ((deads b l i).st.set i 1)[i]? = none := List.getElem?_eq_none (by rw [List.length_set, hd.2.2.2.1]; omega)
          have n2 : ((deads b l i).mr.set i 0)[i]? = none := List.getElem?_eq_none (by rw [List.length_set, hd.2.2.2.2]; omega)
          have n3 : l.st[i]? = none := List.getElem?_eq_none (by omega)
          have n4 : l.mr[i]? = none := List.getElem?_eq_none (by omega)
          rw [if_neg (fun h => hl h.2.2), if_neg (fun h => hl h.2.2), n1, n2, n3, n4]
          exact ⟨rfl, rfl⟩
      · rw [List.getElem?_set_ne (fun e => hi e.symm), List.getElem?_set_ne (fun e => hi e.symm), h1, h2]
        have : (i < k ∧ (b.at i).dead = true ∧ i < l.st.length) ↔ (i < k + 1 ∧ (b.at i).dead = true ∧ i < l.st.length) := by constructor <;> (rintro ⟨a, c⟩; exact ⟨by omega, c⟩)
        simp only [this]
        exact ⟨trivial, trivial⟩
theorem deads_ok {b : By} {l : Lb} (h : l.Ok) (he : l.ep + 1 ≤ 9007199254740992) (k : Nat) : (nx l (deads b l k)).Ok := by
  obtain ⟨d1, d2, d3, d4, d5⟩ := deads_is b l k
  have h1 := h.e1
  have h2 := h.st
  have h3 := h.mr
  have ha := deads_at b l (by omega) k
  refine ⟨by show 4 ≤ (deads b l k).m; rw [d1]; exact h.m4, by show (deads b l k).m ≤ 32; rw [d1]; exact h.m32, by show 1 ≤ (deads b l k).t; rw [d2]; exact h.t1, by show (deads b l k).t ≤ 64; rw [d2]; exact h.t64, by show 1 ≤ l.ep + 1; omega, he, ?_, ?_, fun j hj => ?_⟩
  · show ((deads b l k).st.length : Int) = (deads b l k).m
    rw [d4, d1]; exact h2
  · show ((deads b l k).mr.length : Int) = (deads b l k).m
    rw [d5, d1]; exact h3
  · have hj : j < (deads b l k).st.length := hj
    rw [d4] at hj
    show okAt (deads b l k).t ((deads b l k).st.getD j 0) ((deads b l k).mr.getD j 0) = true
    rw [d2, List.getD_eq_getElem?_getD, List.getD_eq_getElem?_getD, (ha j).1, (ha j).2]
    split
    · exact ok_gone _ h.t1
    · rw [← List.getD_eq_getElem?_getD, ← List.getD_eq_getElem?_getD]
      exact h.at_ j hj
/-- If who is dead is told as failed, nothing is to be changed. -/
theorem deads_same {b : By} {l : Lb} (h : l.Ok) (hd : ∀ (i : Nat), i < l.st.length → (b.at i).dead = true → l.st[i]? = some 1) (k : Nat) : deads b l k = l := by
  obtain ⟨d1, d2, d3, d4, d5⟩ := deads_is b l k
  have h2 := h.st
  have h3 := h.mr
  have ha := deads_at b l (by omega) k
  have e1 : (deads b l k).st = l.st := List.ext_getElem? fun i => by
    rw [(ha i).1]
    split
    · rename_i c
      exact (hd i c.2.2 c.2.1).symm
    · rfl
  have e2 : (deads b l k).mr = l.mr := List.ext_getElem? fun i => by
    rw [(ha i).2]
    split
    · rename_i c
      have c1 := hd i c.2.2 c.2.1
      have c2 := (okAt_iff _ _ _).1 (h.at_ i c.2.2)
      rw [List.getD_eq_getElem?_getD, c1, List.getD_eq_getElem?_getD, List.getElem?_eq_getElem (by omega)] at c2
      rw [List.getElem?_eq_getElem (by omega)]
      simp only [Option.getD_some] at c2
      rw [show l.mr[i]'(by omega) = 0 by omega]
    · rfl
  obtain ⟨d, hdd⟩ : ∃ d, d = deads b l k := ⟨_, rfl⟩
  rw [← hdd] at d1 d2 d3 e1 e2 ⊢
  clear hdd ha d4 d5
  obtain ⟨m', t', ep', st', mr'⟩ := d
  obtain ⟨m, t, ep, st, mr⟩ := l
  dsimp only at d1 d2 d3 e1 e2
  rw [d1, d2, d3, e1, e2]
/-! Opened with the power on. -/
theorem open_on {b : By} {n : Nat} {l : Lb} (h : Pre b n l.ep) (hs : b.set = false) (ok : l.Ok) (hN : newl b = l) (hlv : b.live ≠ []) (hlen : (b.M.length : Int) = l.m) (hr : 100 + l.t ≤ (n : Int)) (he : l.ep + 1 ≤ 9007199254740992) :
    openE b n = 0 ∧ openNow b n = nx l (deads b l b.M.length) ∧ ((∀ (i : Nat) m, b.M[i]? = some m → m.dead = false → l.st[i]? ≠ some 1) → Inv (opened b n) n (openNow b n)) := by
  have h1 := ok.e1
  have ht := ok.t1
  have hout : b.out = false := by unfold By.out; rw [hs]; rfl
  have h0 : openE0 b n = 0 := by
    unfold openE0
    rw [if_neg hlv, if_neg (by rw [hout]; decide), hN, if_neg (by omega), if_neg]
    unfold fits
    rw [hlen, decide_eq_true rfl, decide_eq_true hr]; decide
  obtain ⟨g1, g2⟩ := open_go h0
  have hL : openL b = deads b l b.M.length := by unfold openL; rw [hN]
  have hn : openNow b n = nx l (deads b l b.M.length) := by unfold openNow; rw [hN, hL]
  obtain ⟨d1, d2, d3, d4, d5⟩ := deads_is b l b.M.length
  have hok := deads_ok (b := b) ok he b.M.length
  have h2 := ok.st
  have h3 := ok.mr
  obtain ⟨k1, k2⟩ := tl_put hok
  have hj : 0 ≤ (l.ep + 1) % 2 ∧ (l.ep + 1) % 2 < 2 := by omega
  have hE : pubE b l (deads b l b.M.length) = 0 := by
    unfold pubE; rw [if_neg (by omega)]
    exact ((h.pub (by omega) hj.1 hj.2 k2).on hs).1
  refine ⟨by rw [g1, hN, hL]; exact hE, hn, fun hd => ?_⟩
  rw [g2, hn, hN, hL]
  refine (pub_on h hs h1 (by omega) hok (by rw [d1]; exact hlen) (by rw [d2]; exact hr) fun i m hm => ?_).2.2
  have hi := (List.getElem?_eq_some_iff.1 hm).1
  rw [((deads_at b l (by omega)) b.M.length i).1, at_eq hm]
  constructor
  · intro e
    rw [if_pos ⟨hi, e, by omega⟩]
  · intro e
    cases hdd : m.dead with
    | true => rfl
    | false =>
      rw [hdd, if_neg (by simp)] at e
      exact (hd i m hm hdd e).elim
/-- What an array that is all right is opened as. -/
theorem Inv.newl {b : By} {n : Nat} {l : Lb} (h : Inv b n l) (hlv : b.live ≠ []) : newl b = l := by
  have ht := h.ok.t1
  have hr := h.room
  obtain ⟨i, hi⟩ := List.exists_mem_of_ne_nil _ hlv
  obtain ⟨m, hm, hd⟩ := mem_live.1 hi
  obtain ⟨_, _, h3⟩ := h.alive i m hm hd
  have h1 := h.ok.e1
  obtain ⟨k, hk, hk2⟩ : ∃ k : Nat, k < 2 ∧ (k : Int) = l.ep % 2 := ⟨(l.ep % 2).toNat, by omega, by omega⟩
  obtain ⟨s, hs, h4⟩ := h3 k hk
  refine newl_is (by omega) (by omega) h.set h.size ⟨i, m, k, s, hm, hd, hk, hs, ?_⟩ fun i m hm hd k hk => ?_
  · rcases h4 with ⟨_, h4⟩ | ⟨h4, _⟩
    · exact h4
    · exact (h4 hk2).elim
  · obtain ⟨s, hs, h4⟩ := (h.alive i m hm hd).2.2 k hk
    exact ⟨s, hs, h4.imp (fun x => x.2) (fun x => x.2)⟩
theorem Inv.reopen {b : By} {n : Nat} {l : Lb} (h : Inv b n l) (hlv : b.live ≠ []) (he : l.ep + 1 ≤ 9007199254740992) : openE b n = 0 ∧ openNow b n = nx l l ∧ Inv (opened b n) n (nx l l) := by
  have h2 := h.ok.st
  have hlen := h.len
  obtain ⟨g1, g2, g3⟩ := open_on h.pre h.set h.ok (h.newl hlv) hlv h.len h.room he
  have hs : deads b l b.M.length = l := deads_same h.ok (fun i hi e => by
    have hm := List.getElem?_eq_getElem (show i < b.M.length by omega)
    rw [at_eq hm] at e
    exact (h.dead i _ hm).1 e) _
  rw [hs] at g2
  refine ⟨g1, g2, ?_⟩
  rw [← g2]
  refine g3 fun i m hm hd e => ?_
  rw [(h.dead i m hm).2 e] at hd
  cases hd
/-! A change with the power on. -/
theorem Inv.change {b p : By} {n : Nat} {l : Lb} (h : Inv b n l) (hp : Pre p n l.ep) (hs : p.set = false) (hlen : p.M.length = b.M.length) (i : Nat) (k mark : Int) (hk : okAt l.t k mark = true) (hd : ∀ (j : Nat) m, p.M[j]? = some m → (m.dead = true ↔ (l.st.set i k)[j]? = some 1)) (he : l.ep + 1 ≤ 9007199254740992) :
    pubE p l (setL l i k mark) = 0 ∧ pubL p l (setL l i k mark) = nx l (setL l i k mark) ∧ Inv (pubB p l (setL l i k mark)) n (nx l (setL l i k mark)) := by
  have h1 := h.ok.e1
  exact pub_on hp hs h1 (by omega) (ok_set h.ok i k mark hk he) (by rw [hlen]; exact h.len) h.room hd
theorem off_M {b : By} {i j : Nat} {f : Mb → Mb} {m : Mb} (h : (b.on i (f (b.at i))).M[j]? = some m) : ∃ m0, b.M[j]? = some m0 ∧ (i = j ∧ m = f m0 ∨ i ≠ j ∧ m = m0) := by
  unfold By.on at h
  dsimp only at h
  by_cases e : i = j
  · subst e
    have hl := (List.getElem?_eq_some_iff.1 h).1
    rw [List.length_set] at hl
    have hm := List.getElem?_eq_getElem hl
    rw [List.getElem?_set_self hl] at h
    obtain rfl := Option.some.inj h
    exact ⟨_, hm, .inl ⟨rfl, by rw [at_eq hm]⟩⟩
  · rw [List.getElem?_set_ne e] at h
    exact ⟨m, h, .inr ⟨e, rfl⟩⟩
theorem Pre.off {b : By} {n : Nat} {e : Int} (h : Pre b n e) (i : Nat) : Pre (b.on i (b.at i).fail) n e := ⟨fun j m hm => by
  obtain ⟨m0, h0, ⟨_, rfl⟩ | ⟨_, rfl⟩⟩ := off_M (f := Mb.fail) hm
  · exact h.size j m0 h0
  · exact h.size j _ h0, fun j m hm hd => by
  obtain ⟨m0, h0, ⟨_, rfl⟩ | ⟨_, rfl⟩⟩ := off_M (f := Mb.fail) hm
  · cases hd
  · exact h.alive j _ h0 hd⟩
theorem Pre.anew {b : By} {n : Nat} {e : Int} (h : Pre b n e) (i : Nat) (hn : 2 ≤ n) (he : 0 ≤ e) : Pre (b.on i (b.at i).replace) n e := ⟨fun j m hm => by
  obtain ⟨m0, h0, ⟨_, rfl⟩ | ⟨_, rfl⟩⟩ := off_M (f := Mb.replace) hm
  · show (Member.blank m0.now.length).length = n
    rw [blank_length]; exact h.size j m0 h0
  · exact h.size j _ h0, fun j m hm hd => by
  obtain ⟨m0, h0, ⟨_, rfl⟩ | ⟨_, rfl⟩⟩ := off_M (f := Mb.replace) hm
  · refine ⟨rfl, rfl, fun k hk => ⟨z64, ?_, by rw [tl_zero]; exact he⟩⟩
    show (Member.blank m0.now.length)[k]? = some z64
    unfold Member.blank
    rw [List.getElem?_replicate, if_pos (by rw [h.size j m0 h0]; omega)]
  · exact h.alive j _ h0 hd⟩
theorem on_set (b : By) (i : Nat) (m : Mb) : (b.on i m).set = b.set := rfl
theorem inE_iff (l : Lb) (i : Int) : inE l i = 0 ↔ 0 ≤ i ∧ i < l.m := by
  unfold inE
  split
  · exact ⟨fun _ => by assumption, fun _ => rfl⟩
  · rename_i h; exact ⟨fun e => (by cases e), fun e => (h e).elim⟩
section
variable {x : Bd} {n : Nat}
theorem Inv.two (h : Inv x.b n x.l) : 2 ≤ n := by have := h.room; have := h.ok.t1; omega
theorem Inv.fail (h : Inv x.b n x.l) (he : x.l.ep + 1 ≤ 9007199254740992) (i : Int) :
    (x.failE i ≠ 0 → x.fail i = x) ∧ (x.failE i = 0 → inE x.l i = 0 ∧ Inv (x.fail i).b n (x.fail i).l ∧ if x.known i then (x.fail i).l = x.l else (x.fail i).l = nx x.l (setL x.l i.toNat 1 0)) ∧ (inE x.l i = 0 → x.failE i = 0) := by
  unfold Bd.failE Bd.fail
  by_cases hin : inE x.l i = 0
  · have h0 := (inE_iff _ _).1 hin
    have hlen := h.len
    have hst := h.ok.st
    have hc : ¬ inE x.l i ≠ 0 := by simpa using hin
    rw [if_neg hc, if_neg hc]
    have hoff : ∀ (j : Nat) m, (x.off i).b.M[j]? = some m → ∃ m0, x.b.M[j]? = some m0 ∧ (i.toNat = j ∧ m = m0.fail ∨ i.toNat ≠ j ∧ m = m0) := fun j m hm => off_M (f := Mb.fail) hm
    cases hk : x.known i with
    | true =>
      rw [if_pos rfl, if_pos rfl]
      refine ⟨fun h => (h rfl).elim, fun _ => ⟨hin, ?_, by rw [if_pos rfl]; rfl⟩, fun _ => rfl⟩
      unfold Bd.known at hk
      rw [Bool.and_eq_true, decide_eq_true_eq] at hk
      refine ⟨h.set, h.ok, ?_, h.room, fun j m hm => ?_, fun j m hm hd => ?_, fun j m hm => ?_⟩
      · show (((x.b.on _ _).M.length : Nat) : Int) = _
        rw [By.on_length]; exact h.len
      · obtain ⟨m0, h1, ⟨_, rfl⟩ | ⟨_, rfl⟩⟩ := hoff j m hm
        · exact h.size j m0 h1
        · exact h.size j _ h1
      · obtain ⟨m0, h1, ⟨_, rfl⟩ | ⟨_, rfl⟩⟩ := hoff j m hm
        · cases hd
        · exact h.alive j _ h1 hd
      · obtain ⟨m0, h1, ⟨e, rfl⟩ | ⟨_, rfl⟩⟩ := hoff j m hm
        · have h2 := h.dead j m0 h1
          have : m0.dead = true := by
            have := hk.1
            rw [e, at_eq h1] at this; exact this
          exact ⟨fun _ => h2.1 this, fun _ => rfl⟩
        · exact h.dead j _ h1
    | false =>
      rw [if_neg (by decide), if_neg (by decide)]
      obtain ⟨g1, g2, g3⟩ := h.change (p := (x.off i).b) (h.pre.off i.toNat) h.set (by show (x.b.on _ _).M.length = _; rw [By.on_length]) i.toNat 1 0 (ok_gone _ h.ok.t1) (fun j m hm => by
        obtain ⟨m0, h1, ⟨e, rfl⟩ | ⟨e, rfl⟩⟩ := hoff j m hm
        · subst e
          rw [List.getElem?_set_self (by omega)]
          exact ⟨fun _ => rfl, fun _ => rfl⟩
        · rw [List.getElem?_set_ne e]
          exact h.dead j _ h1) he
      refine ⟨fun h => (h g1).elim, fun _ => ⟨hin, ?_, ?_⟩, fun _ => g1⟩
      · show Inv (pubB (x.off i).b x.l _) n (pubL (x.off i).b x.l _)
        rw [g2]; exact g3
      · rw [if_neg (by decide)]; exact g2
  · rw [if_pos hin, if_pos hin]
    exact ⟨fun _ => rfl, fun h => (by cases h), fun h => (hin h).elim⟩
theorem stAt_some {l : Lb} {i : Int} {s : Int} (h0 : 0 ≤ i) (hl : i < (l.st.length : Int)) (h : stAt l i = s) : l.st[i.toNat]? = some s := by
  unfold stAt at h
  rw [List.getD_eq_getElem?_getD, List.getElem?_eq_getElem (by omega)] at h
  rw [List.getElem?_eq_getElem (by omega)]
  exact congrArg some h
theorem Inv.replace (h : Inv x.b n x.l) (he : x.l.ep + 1 ≤ 9007199254740992) (i : Int) :
    (x.replaceE i ≠ 0 → x.replace i = x) ∧ (x.replaceE i = 0 → inE x.l i = 0 ∧ stAt x.l i = 1 ∧ Inv (x.replace i).b n (x.replace i).l ∧ (x.replace i).l = nx x.l (setL x.l i.toNat 2 0)) ∧ (inE x.l i = 0 → stAt x.l i = 1 → x.replaceE i = 0) := by
  unfold Bd.replaceE Bd.replace
  by_cases hin : inE x.l i = 0
  · have h0 := (inE_iff _ _).1 hin
    have hlen := h.len
    have hst := h.ok.st
    have hc : ¬ inE x.l i ≠ 0 := by simpa using hin
    rw [if_neg hc, if_neg hc]
    by_cases hs : stAt x.l i = 1
    · have hc2 : ¬ stAt x.l i ≠ 1 := by simpa using hs
      rw [if_neg hc2, if_neg hc2]
      have hk : okAt x.l.t 2 0 = true := by rw [okAt_iff]; have := h.ok.t1; omega
      have h1 := h.ok.e1
      obtain ⟨g1, g2, g3⟩ := h.change (p := (x.anew i).b) (h.pre.anew i.toNat h.two (by omega)) h.set (by show (x.b.on _ _).M.length = _; rw [By.on_length]) i.toNat 2 0 hk (fun j m hm => by
        obtain ⟨m0, h1, ⟨e, rfl⟩ | ⟨e, rfl⟩⟩ := off_M (f := Mb.replace) hm
        · subst e
          rw [List.getElem?_set_self (by omega)]
          exact ⟨fun e => (by cases e), fun e => (by cases e)⟩
        · rw [List.getElem?_set_ne e]
          exact h.dead j _ h1) he
      refine ⟨fun h => (h g1).elim, fun _ => ⟨hin, hs, ?_, g2⟩, fun _ _ => g1⟩
      show Inv (pubB (x.anew i).b x.l _) n (pubL (x.anew i).b x.l _)
      rw [g2]; exact g3
    · rw [if_pos hs, if_pos hs]
      exact ⟨fun _ => rfl, fun h => (by cases h), fun _ h => (hs h).elim⟩
  · rw [if_pos hin, if_pos hin]
    exact ⟨fun _ => rfl, fun h => (by cases h), fun h => (hin h).elim⟩
theorem may_zero {i k : Int} (h : x.may i k = 0) : (0 ≤ i ∧ i < x.l.m) ∧ mrAt x.l i ≤ k ∧ k ≤ x.l.t ∧ stAt x.l i = 2 := by
  unfold Bd.may at h
  by_cases h1 : inE x.l i = 0
  · have hc : ¬ inE x.l i ≠ 0 := by simpa using h1
    rw [if_neg hc] at h
    split at h
    · cases h
    · rename_i h2
      split at h
      · cases h
      · rename_i h3
        exact ⟨(inE_iff _ _).1 h1, by omega, by omega, by simpa using h3⟩
  · rw [if_pos h1] at h; cases h
theorem far_is (x : Bd) (i k : Int) : x.far i k = setL x.l i.toNat (if k = x.l.t then 0 else 2) (if k = x.l.t then 0 else k) := by
  unfold Bd.far
  split <;> rfl
theorem far_ok {i k : Int} (h : Inv x.b n x.l) (hm : x.may i k = 0) : okAt x.l.t (if k = x.l.t then 0 else 2) (if k = x.l.t then 0 else k) = true := by
  obtain ⟨h0, h1, h2, h3⟩ := may_zero hm
  have ht := h.ok.t1
  have hst := h.ok.st
  have hmr := h.ok.mr
  have hat := (okAt_iff _ _ _).1 (h.ok.at_ i.toNat (by omega))
  have : mrAt x.l i = x.l.mr.getD i.toNat 0 := rfl
  split
  · rw [okAt_iff]; omega
  · rw [okAt_iff]; omega
theorem Inv.advance (h : Inv x.b n x.l) (he : x.l.ep + 1 ≤ 9007199254740992) (i k : Int) :
    (x.advanceE i k ≠ 0 → x.advance i k = x) ∧ (x.advanceE i k = 0 → x.may i k = 0 ∧ Inv (x.advance i k).b n (x.advance i k).l ∧ (x.advance i k).l = nx x.l (x.far i k)) ∧ (x.may i k = 0 → x.advanceE i k = 0) := by
  unfold Bd.advanceE Bd.advance
  by_cases hm : x.may i k = 0
  · have hc : ¬ x.may i k ≠ 0 := by simpa using hm
    rw [if_neg hc, if_neg hc, far_is]
    obtain ⟨h0, _, _, h3⟩ := may_zero hm
    have hlen := h.len
    have hst := h.ok.st
    have hss := stAt_some h0.1 (by omega) h3
    obtain ⟨g1, g2, g3⟩ := h.change h.pre h.set rfl i.toNat (if k = x.l.t then 0 else 2) (if k = x.l.t then 0 else k) (far_ok h hm) (fun j m hm => by
      have h4 := h.dead j m hm
      by_cases e : i.toNat = j
      · subst e
        rw [List.getElem?_set_self (by omega)]
        rw [h4, hss]
        constructor
        · intro e; cases e
        · split <;> intro e <;> cases e
      · rw [List.getElem?_set_ne e]; exact h4) he
    refine ⟨fun h => (h g1).elim, fun _ => ⟨hm, ?_, g2⟩, fun _ => g1⟩
    show Inv (pubB x.b x.l _) n (pubL x.b x.l _)
    rw [g2]; exact g3
  · rw [if_pos hm, if_pos hm]
    exact ⟨fun _ => rfl, fun h => (hm h).elim, fun h => (hm h).elim⟩
end
end Go.Proofs.YtbbhcmfkkkjehaaGreat.Brd
