/- A board by plain words: the bay, the label; what each call comes to. No program is named here. -/
import Derived.Test.YtbbhcmfkkkjehaaGreatGbC
import Derived.Test.YtbbhcmfkkkjehaaGreatGlD
namespace Go.Proofs.YtbbhcmfkkkjehaaGreat.Brd
open Go.RowKit Go.Proofs.YtbbhcmfkkkjehaaGreat.Mem Go.Proofs.YtbbhcmfkkkjehaaGreat.Sep Go.Proofs.YtbbhcmfkkkjehaaGreat.Member Go.Proofs.YtbbhcmfkkkjehaaGreat.Bay Go.Proofs.YtbbhcmfkkkjehaaGreat.Lab Go.Proofs.YtbbhcmfkkkjehaaGreat.B8 Go.Proofs.YtbbhcmfkkkjehaaGreat.CrcS Go.Proofs.YtbbhcmfkkkjehaaGreat.Num
set_option linter.unusedVariables false
set_option linter.unusedSimpArgs false

/-- What is so of a bay of N members behind k calls. -/
structure Bi (b : By) (N k : Nat) : Prop where
  lo : -(k : Int) ≤ b.left
  hi : b.left ≤ 9223372036854775807
  few : ∀ m ∈ b.M, m.q.length ≤ k
  len : b.M.length = N
section
variable {b : By} {N k : Nat}
theorem Bi.fit (h : Bi b N k) (hk : k ≤ 1000000) : b.fit := ⟨by have := h.lo; omega, h.hi⟩
theorem Bi.mono (h : Bi b N k) {j : Nat} (hj : k ≤ j) : Bi b N j := ⟨by have := h.lo; omega, h.hi, fun m hm => Nat.le_trans (h.few m hm) hj, h.len⟩
theorem Bi.q (h : Bi b N k) (hk : k < 1000000) : ∀ m ∈ b.M, m.q.length < 1000000 := fun m hm => Nat.lt_of_le_of_lt (h.few m hm) hk
theorem Bi.q1 (h : Bi b N k) (hk : k < 1000000) : ∀ m ∈ b.M, m.q.length ≤ 1000000 := fun m hm => Nat.le_of_lt (h.q hk m hm)
theorem Bi.fresh (N n : Nat) : Bi (By.fresh N n) N 0 := ⟨by simp [By.fresh], by simp [By.fresh], fun m hm => by have := List.eq_of_mem_replicate hm; rw [this]; simp [Mb.fresh], by simp [By.fresh]⟩
theorem step_left (h : Bi b N k) (hk : k ≤ 1000000) : -(k + 1 : Int) ≤ b.step.left ∧ b.step.left ≤ 9223372036854775807 := by
  have hw := wrap_less (h.fit hk).1 h.hi
  unfold By.step
  have := h.lo
  have := h.hi
  cases b.set
  · simp; omega
  · simp only [if_true]
    rw [hw]
    split <;> simp <;> omega
theorem Bi.step (h : Bi b N k) (hk : k ≤ 1000000) : Bi b.step N (k + 1) :=
  ⟨by have := (step_left h hk).1; push_cast; omega, (step_left h hk).2, fun m hm => Nat.le_succ_of_le (h.few m (by rw [step_M] at hm; exact hm)), by rw [step_M]; exact h.len⟩
theorem Bi.on (h : Bi b N k) (i : Nat) (m : Mb) (hm : m.q.length ≤ k) : Bi (b.on i m) N k :=
  ⟨h.lo, h.hi, fun x hx => by
    rcases List.mem_or_eq_of_mem_set hx with e | e
    · exact h.few x e
    · subst e; exact hm, by rw [By.on_length]; exact h.len⟩
theorem at_few (h : Bi b N k) (i : Nat) : (b.at i).q.length ≤ k := by
  unfold By.at
  rw [List.getD_eq_getElem?_getD]
  cases e : b.M[i]? with
  | none => simp [Mb.fresh]
  | some m => exact h.few m (List.mem_of_getElem? e)
theorem Bi.write (h : Bi b N k) (hk : k ≤ 1000000) (i j : Int) (s : ByteArray) : Bi (b.write i j s) N (k + 1) := by
  unfold By.write
  split
  · exact h.mono (Nat.le_succ k)
  · split
    · exact h.step hk
    · refine (h.step hk).on _ _ ?_
      unfold Mb.put
      have := at_few h i.toNat
      split
      · simp; omega
      · omega
theorem Bi.flush (h : Bi b N k) (hk : k ≤ 1000000) (i : Int) : Bi (b.flush i) N (k + 1) := by
  unfold By.flush
  split
  · exact h.mono (Nat.le_succ k)
  · split
    · exact h.step hk
    · refine (h.step hk).on _ _ ?_
      unfold Mb.flush
      have := at_few h i.toNat
      split
      · omega
      · simp
theorem Bi.cut (h : Bi b N k) (x : Int) (hx : x ≤ 9223372036854775807) : Bi (b.cut x) N (k + 1) :=
  ⟨by show -((k + 1 : Nat) : Int) ≤ max 0 x; omega, by show max 0 x ≤ _; omega, fun m hm => Nat.le_succ_of_le (h.few m hm), h.len⟩
theorem crash_few (m : Mb) (K : List Nat) : (m.crash K).q.length ≤ m.q.length := by unfold Mb.crash; split <;> simp
theorem Bi.crash (h : Bi b N k) (KS : List (List Nat)) : Bi (b.crash KS) N (k + 1) :=
  ⟨by show -((k + 1 : Nat) : Int) ≤ b.left; have := h.lo; omega, h.hi, fun m hm => by
    have hm : m ∈ crashes KS b.M := hm
    unfold crashes at hm
    obtain ⟨i, hi⟩ := List.getElem?_of_mem hm
    rw [List.getElem?_mapIdx] at hi
    cases e : b.M[i]? with
    | none => rw [e] at hi; cases hi
    | some y =>
      rw [e] at hi
      obtain rfl := Option.some.inj hi
      have := h.few y (List.mem_of_getElem? e)
      have := crash_few y (KS.getD i [])
      show (y.crash (KS.getD i [])).q.length ≤ _
      omega, by show (crashes KS b.M).length = N; unfold crashes; rw [List.length_mapIdx]; exact h.len⟩
theorem Bi.fail (h : Bi b N k) (i : Nat) : Bi (b.on i (b.at i).fail) N k := h.on i _ (by unfold Mb.fail; simp)
theorem Bi.replace (h : Bi b N k) (i : Nat) : Bi (b.on i (b.at i).replace) N k := h.on i _ (by unfold Mb.replace; simp)
end

/-- A sector written to some members, each flushed behind. -/
def pubs (s : ByteArray) (j : Int) : List Nat → By → By × Int
  | [], b => (b, 0)
  | m :: ms, b =>
    if b.writeE m j s = 21 then (b.write m j s, 21)
    else if (b.write m j s).flushE m = 21 then ((b.write m j s).flush m, 21)
    else pubs s j ms ((b.write m j s).flush m)
def nx (now l : Lb) : Lb := ⟨l.m, l.t, now.ep + 1, l.st, l.mr⟩
def pubB (b : By) (now l : Lb) : By := if 9007199254740992 ≤ now.ep then b else (pubs (bts (nx now l).put) ((now.ep + 1) % 2) b.live b).1
def pubE (b : By) (now l : Lb) : Int := if 9007199254740992 ≤ now.ep then 10 else (pubs (bts (nx now l).put) ((now.ep + 1) % 2) b.live b).2
def pubL (b : By) (now l : Lb) : Lb := if pubE b now l = 0 then nx now l else now
theorem pubs_two (s : ByteArray) (j : Int) : ∀ (ms : List Nat) (b : By), (pubs s j ms b).2 = 0 ∨ (pubs s j ms b).2 = 21
  | [], b => .inl rfl
  | m :: ms, b => by
    unfold pubs
    split
    · exact .inr rfl
    · split
      · exact .inr rfl
      · exact pubs_two s j ms _
theorem Bi.pubs {N : Nat} (s : ByteArray) (j : Int) : ∀ (ms : List Nat) (b : By) (k : Nat), Bi b N k → k + 2 * ms.length ≤ 1000000 → Bi (Brd.pubs s j ms b).1 N (k + 2 * ms.length)
  | [], b, k, h, _ => h
  | m :: ms, b, k, h, hk => by
    rw [List.length_cons] at hk ⊢
    unfold Brd.pubs
    have h1 := h.write (by omega) m j s
    have h2 := h1.flush (by omega) m
    split
    · exact h1.mono (by omega)
    · split
      · exact h2.mono (by omega)
      · exact (Bi.pubs s j ms _ (k + 2) h2 (by omega)).mono (by omega)
theorem live_le (b : By) : b.live.length ≤ b.M.length := by unfold By.live; exact Nat.le_trans (List.length_filter_le _ _) (by simp)
theorem Bi.pub {b : By} {N k : Nat} (h : Bi b N k) (hN : N ≤ 32) (hk : k ≤ 999000) (now l : Lb) : Bi (pubB b now l) N (k + 64) := by
  unfold pubB
  split
  · exact h.mono (by omega)
  · have := live_le b
    have := h.len
    exact (Bi.pubs _ _ _ _ k h (by omega)).mono (by omega)
/-- A member is something to the array. -/
def setL (l : Lb) (i : Nat) (k mark : Int) : Lb := ⟨l.m, l.t, l.ep, l.st.set i k, l.mr.set i mark⟩
def inE (l : Lb) (i : Int) : Int := if 0 ≤ i ∧ i < l.m then 0 else 3
def stAt (l : Lb) (i : Int) : Int := l.st.getD i.toNat 0
def mrAt (l : Lb) (i : Int) : Int := l.mr.getD i.toNat 0
/-- A board: its bay, its label. -/
structure Bd where
  b : By
  l : Lb
def Bd.pub (x : Bd) (l : Lb) : Bd := ⟨pubB x.b x.l l, pubL x.b x.l l⟩
def Bd.known (x : Bd) (i : Int) : Bool := (x.b.at i.toNat).dead && decide (stAt x.l i = 1)
def Bd.off (x : Bd) (i : Int) : Bd := ⟨x.b.on i.toNat (x.b.at i.toNat).fail, x.l⟩
def Bd.anew (x : Bd) (i : Int) : Bd := ⟨x.b.on i.toNat (x.b.at i.toNat).replace, x.l⟩
def Bd.failE (x : Bd) (i : Int) : Int := if inE x.l i ≠ 0 then 3 else if x.known i then 0 else pubE (x.off i).b x.l (setL x.l i.toNat 1 0)
def Bd.fail (x : Bd) (i : Int) : Bd := if inE x.l i ≠ 0 then x else if x.known i then x.off i else (x.off i).pub (setL x.l i.toNat 1 0)
def Bd.replaceE (x : Bd) (i : Int) : Int := if inE x.l i ≠ 0 then 3 else if stAt x.l i ≠ 1 then 12 else pubE (x.anew i).b x.l (setL x.l i.toNat 2 0)
def Bd.replace (x : Bd) (i : Int) : Bd := if inE x.l i ≠ 0 then x else if stAt x.l i ≠ 1 then x else (x.anew i).pub (setL x.l i.toNat 2 0)
def Bd.may (x : Bd) (i n : Int) : Int := if inE x.l i ≠ 0 then 3 else if n < mrAt x.l i ∨ x.l.t < n then 3 else if stAt x.l i ≠ 2 then 12 else 0
def Bd.far (x : Bd) (i n : Int) : Lb := if n = x.l.t then setL x.l i.toNat 0 0 else setL x.l i.toNat 2 n
def Bd.advanceE (x : Bd) (i n : Int) : Int := if x.may i n ≠ 0 then x.may i n else pubE x.b x.l (x.far i n)
def Bd.advance (x : Bd) (i n : Int) : Bd := if x.may i n ≠ 0 then x else x.pub (x.far i n)
/-- The member whose rebuilding is least far. -/
def nxt (x : Bd) (best : Option Nat) (m : Nat) : Option Nat :=
  if x.l.st.getD m 0 ≠ 2 ∨ (x.b.at m).dead = true then best
  else match best with
    | none => some m
    | some j => if x.l.mr.getD m 0 < x.l.mr.getD j 0 then some m else some j
def Bd.best (x : Bd) (k : Nat) : Option Nat := (List.range k).foldl (nxt x) none
theorem best_succ (x : Bd) (k : Nat) : x.best (k + 1) = nxt x (x.best k) k := by unfold Bd.best; rw [List.range_succ, List.foldl_append]; rfl
def Bd.next (x : Bd) : Int × Int × Bool := match x.best x.l.st.length with
  | none => (0, 0, false)
  | some m => ((m : Int), x.l.mr.getD m 0, true)
/-! A new array, and the one that the members tell. -/
def fits (b : By) (n : Nat) (m t : Int) : Bool := decide (m = b.M.length) && decide (100 + t ≤ (n : Int))
def puts (z : ByteArray) (m : Nat) : List Int → By → By × Int
  | [], b => (b, 0)
  | p :: ps, b => if b.writeE m p z ≠ 0 then (b.write m p z, b.writeE m p z) else puts z m ps (b.write m p z)
def places (t : Nat) : List Int := [0, 2, 3] ++ (List.range t).map fun i : Nat => (100 + (i : Int) : Int)
def clean (s z : ByteArray) (t : Nat) (m : Nat) (b : By) : By × Int :=
  let r := puts z m (places t) b
  if r.2 ≠ 0 then r
  else if r.1.writeE m 1 s ≠ 0 then (r.1.write m 1 s, r.1.writeE m 1 s)
  else ((r.1.write m 1 s).flush m, (r.1.write m 1 s).flushE m)
def cleans (s z : ByteArray) (t : Nat) : List Nat → By → By × Int
  | [], b => (b, 0)
  | m :: ms, b => if (clean s z t m b).2 ≠ 0 then clean s z t m b else cleans s z t ms (clean s z t m b).1
def formE (b : By) (n : Nat) (m t : Int) : Int :=
  if ggood m t = false then 4 else if fits b n m t = false then 2 else if b.live.length < b.M.length then 20
  else (cleans (bts (fresh m t).put) z64 t.toNat (List.range b.M.length) b).2
def form (b : By) (n : Nat) (m t : Int) : By :=
  if ggood m t = false then b else if fits b n m t = false then b else if b.live.length < b.M.length then b
  else (cleans (bts (fresh m t).put) z64 t.toNat (List.range b.M.length) b).1
theorem places_length (t : Nat) : (places t).length = t + 3 := by unfold places; simp
theorem Bi.puts {N : Nat} (z : ByteArray) (m : Nat) : ∀ (ps : List Int) (b : By) (k : Nat), Bi b N k → k + ps.length ≤ 1000000 → Bi (Brd.puts z m ps b).1 N (k + ps.length)
  | [], b, k, h, _ => h
  | p :: ps, b, k, h, hk => by
    rw [List.length_cons] at hk ⊢
    unfold Brd.puts
    have h1 := h.write (by omega) m p z
    split
    · exact h1.mono (by omega)
    · exact (Bi.puts z m ps _ (k + 1) h1 (by omega)).mono (by omega)
theorem Bi.clean {b : By} {N k : Nat} (h : Bi b N k) (s z : ByteArray) (t m : Nat) (ht : t ≤ 64) (hk : k ≤ 999000) : Bi (Brd.clean s z t m b).1 N (k + 69) := by
  have h0 := Bi.puts z m (places t) b k h (by rw [places_length]; omega)
  rw [places_length] at h0
  unfold Brd.clean
  dsimp only
  have h1 := h0.write (by omega) m 1 s
  have h2 := h1.flush (by omega) m
  split
  · exact h0.mono (by omega)
  · split
    · exact h1.mono (by omega)
    · exact h2.mono (by omega)
theorem Bi.cleans {N : Nat} (s z : ByteArray) (t : Nat) (ht : t ≤ 64) : ∀ (ms : List Nat) (b : By) (k : Nat), Bi b N k → k + 69 * ms.length ≤ 990000 → Bi (Brd.cleans s z t ms b).1 N (k + 69 * ms.length)
  | [], b, k, h, _ => h
  | m :: ms, b, k, h, hk => by
    rw [List.length_cons] at hk ⊢
    unfold Brd.cleans
    have h1 := h.clean s z t m ht (by omega)
    split
    · exact h1.mono (by omega)
    · exact (Bi.cleans s z t ht ms _ (k + 69) h1 (by omega)).mono (by omega)
theorem Bi.form {b : By} {N k : Nat} (h : Bi b N k) (hN : N ≤ 32) (hk : k ≤ 900000) (n : Nat) (m t : Int) : Bi (form b n m t) N (k + 2208) := by
  unfold Brd.form
  split
  · exact h.mono (by omega)
  · rename_i hg
    split
    · exact h.mono (by omega)
    · split
      · exact h.mono (by omega)
      · have hl := h.len
        have ht : t.toNat ≤ 64 := by
          unfold ggood at hg
          simp at hg
          omega
        refine (Bi.cleans _ _ _ ht _ _ k h ?_).mono ?_ <;> rw [List.length_range] <;> omega
/-- What can be read of the labels' sectors. -/
def tx (b : By) (m : Nat) : List ByteArray := (if b.readE m 0 = 0 then [b.get m 0] else []) ++ (if b.readE m 1 = 0 then [b.get m 1] else [])
def txs (b : By) (ms : List Nat) : List ByteArray := ms.flatMap (tx b)
def newl (b : By) : Lb := newest ((txs b b.live).map by8)
/-- Who is dead has failed. -/
def deads (b : By) (l : Lb) : Nat → Lb
  | 0 => l
  | k + 1 => if (b.at k).dead then setL (deads b l k) k 1 0 else deads b l k
def openE0 (b : By) (n : Nat) : Int :=
  if b.live = [] then 20 else if b.out then 21 else if (newl b).ep ≤ 0 then 11 else if fits b n (newl b).m (newl b).t = false then 2 else 0
def openL (b : By) : Lb := deads b (newl b) b.M.length
def openE (b : By) (n : Nat) : Int := if openE0 b n ≠ 0 then openE0 b n else pubE b (newl b) (openL b)
def opened (b : By) (n : Nat) : By := if openE0 b n ≠ 0 then b else pubB b (newl b) (openL b)
def openNow (b : By) (n : Nat) : Lb := nx (newl b) (openL b)
theorem Bi.opened {b : By} {N k : Nat} (h : Bi b N k) (hN : N ≤ 32) (hk : k ≤ 999000) (n : Nat) : Bi (opened b n) N (k + 64) := by
  unfold Brd.opened
  split
  · exact h.mono (by omega)
  · exact h.pub hN hk _ _
end Go.Proofs.YtbbhcmfkkkjehaaGreat.Brd
