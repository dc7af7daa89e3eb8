/- Every sector of a bay has 64 bytes. No program is named here. -/
import Derived.Test.YtbbhcmfkkkjehaaGreatBdP
namespace Go.Proofs.YtbbhcmfkkkjehaaGreat.Brd
open Go.RowKit Go.Proofs.YtbbhcmfkkkjehaaGreat.Mem Go.Proofs.YtbbhcmfkkkjehaaGreat.Sep Go.Proofs.YtbbhcmfkkkjehaaGreat.Member Go.Proofs.YtbbhcmfkkkjehaaGreat.Bay Go.Proofs.YtbbhcmfkkkjehaaGreat.Lab Go.Proofs.YtbbhcmfkkkjehaaGreat.B8 Go.Proofs.YtbbhcmfkkkjehaaGreat.CrcS Go.Proofs.YtbbhcmfkkkjehaaGreat.Num
set_option linter.unusedVariables false
set_option linter.unusedSimpArgs false

structure Szm (m : Mb) : Prop where
  now : ∀ s ∈ m.now, s.size = 64
  las : ∀ s ∈ m.las, s.size = 64
  q : ∀ x ∈ m.q, x.2.size = 64
def Sz (b : By) : Prop := ∀ m ∈ b.M, Szm m
theorem z64_size : z64.size = 64 := by decide +kernel
theorem mem_set' {α : Type} {l : List α} {i : Nat} {a x : α} (h : x ∈ l.set i a) : x ∈ l ∨ x = a := List.mem_or_eq_of_mem_set h
theorem Szm.put {m : Mb} (h : Szm m) (j : Int) (s : ByteArray) : Szm (m.put j s) := by
  unfold Mb.put
  split
  · rename_i he
    have hs : s.size = 64 := by
      unfold Mb.putE at he
      split at he
      · rename_i h1; exact (h1 he).elim
      · split at he
        · cases he
        · rename_i h2; by_cases e : s.size = 64; exact e; exact (h2 e).elim
    refine ⟨fun x hx => ?_, h.las, fun x hx => ?_⟩
    · rcases mem_set' hx with hx | rfl
      · exact h.now x hx
      · exact hs
    · rcases List.mem_append.1 hx with hx | hx
      · exact h.q x hx
      · rw [List.mem_singleton.1 hx]; exact hs
  · exact h
theorem Szm.flush {m : Mb} (h : Szm m) : Szm m.flush := by
  unfold Mb.flush
  split
  · exact h
  · exact ⟨h.now, h.now, fun x hx => by simp at hx⟩
theorem lasting_sz (K : List Nat) : ∀ (q : Wr) (k : Nat) (l : List ByteArray), (∀ x ∈ q, x.2.size = 64) → (∀ s ∈ l, s.size = 64) → ∀ s ∈ lasting K k q l, s.size = 64
  | [], _, l, _, h => h
  | x :: q, k, l, hq, h => lasting_sz K q (k + 1) _ (fun y hy => hq y (List.mem_cons_of_mem _ hy)) (by
    split
    · intro s hs
      rcases mem_set' hs with hs | rfl
      · exact h s hs
      · exact hq x (List.mem_cons_self ..)
    · exact h)
theorem Szm.crash {m : Mb} (h : Szm m) (K : List Nat) : Szm (m.crash K) := by
  unfold Mb.crash
  split
  · exact h
  · have := lasting_sz K m.q 0 m.las h.q h.las
    exact ⟨this, this, fun x hx => by simp at hx⟩
theorem Szm.fail {m : Mb} (h : Szm m) : Szm m.fail := ⟨h.now, h.las, fun x hx => by simp [Mb.fail] at hx⟩
theorem blank_sz (n : Nat) : ∀ s ∈ Member.blank n, s.size = 64 := fun s hs => by rw [List.eq_of_mem_replicate hs]; exact z64_size
theorem Szm.replace {m : Mb} (h : Szm m) : Szm m.replace := ⟨blank_sz _, blank_sz _, fun x hx => by simp [Mb.replace] at hx⟩
theorem Szm.fresh (n : Nat) : Szm (Mb.fresh n) := ⟨blank_sz _, blank_sz _, fun x hx => by simp [Mb.fresh] at hx⟩
section
variable {b : By}
theorem Sz.at (h : Sz b) (i : Nat) : Szm (b.at i) := by
  unfold By.at
  rw [List.getD_eq_getElem?_getD]
  cases e : b.M[i]? with
  | none => exact Szm.fresh 0
  | some m => exact h m (List.mem_of_getElem? e)
theorem Sz.on (h : Sz b) (i : Nat) {m : Mb} (hm : Szm m) : Sz (b.on i m) := fun x hx => by
  rcases mem_set' (show x ∈ b.M.set i m from hx) with hx | rfl
  · exact h x hx
  · exact hm
theorem Sz.step (h : Sz b) : Sz b.step := fun x hx => h x (by rw [step_M] at hx; exact hx)
theorem Sz.write (h : Sz b) (i j : Int) (s : ByteArray) : Sz (b.write i j s) := by
  unfold By.write
  split
  · exact h
  · split
    · exact h.step
    · exact h.step.on _ ((h.at _).put j s)
theorem Sz.flush (h : Sz b) (i : Int) : Sz (b.flush i) := by
  unfold By.flush
  split
  · exact h
  · split
    · exact h.step
    · exact h.step.on _ (h.at _).flush
theorem Sz.cut (h : Sz b) (x : Int) : Sz (b.cut x) := h
theorem Sz.crash (h : Sz b) (KS : List (List Nat)) : Sz (b.crash KS) := fun m hm => by
  have hm : m ∈ crashes KS b.M := hm
  unfold crashes at hm
  obtain ⟨i, hi⟩ := List.getElem?_of_mem hm
  rw [List.getElem?_mapIdx] at hi
  cases e : b.M[i]? with
  | none => rw [e] at hi; cases hi
  | some y =>
    rw [e] at hi
    obtain rfl := Option.some.inj hi
    exact (h y (List.mem_of_getElem? e)).crash _
theorem Sz.fail (h : Sz b) (i : Nat) : Sz (b.on i (b.at i).fail) := h.on i (h.at i).fail
theorem Sz.replace (h : Sz b) (i : Nat) : Sz (b.on i (b.at i).replace) := h.on i (h.at i).replace
theorem Sz.fresh (N n : Nat) : Sz (By.fresh N n) := fun m hm => by rw [List.eq_of_mem_replicate hm]; exact Szm.fresh n
theorem Sz.pubs (s : ByteArray) (j : Int) : ∀ (ms : List Nat) (b : By), Sz b → Sz (Brd.pubs s j ms b).1
  | [], b, h => h
  | m :: ms, b, h => by
    unfold Brd.pubs
    split
    · exact h.write m j s
    · split
      · exact (h.write m j s).flush m
      · exact Sz.pubs s j ms _ ((h.write m j s).flush m)
theorem Sz.pub (h : Sz b) (now l : Lb) : Sz (pubB b now l) := by
  unfold pubB
  split
  · exact h
  · exact Sz.pubs _ _ _ _ h
theorem Sz.puts (z : ByteArray) (m : Nat) : ∀ (ps : List Int) (b : By), Sz b → Sz (Brd.puts z m ps b).1
  | [], b, h => h
  | p :: ps, b, h => by
    unfold Brd.puts
    split
    · exact h.write m p z
    · exact Sz.puts z m ps _ (h.write m p z)
theorem Sz.clean (h : Sz b) (s z : ByteArray) (t m : Nat) : Sz (Brd.clean s z t m b).1 := by
  have h0 := Sz.puts z m (places t) b h
  unfold Brd.clean
  dsimp only
  split
  · exact h0
  · split
    · exact h0.write m 1 s
    · exact (h0.write m 1 s).flush m
theorem Sz.cleans (s z : ByteArray) (t : Nat) : ∀ (ms : List Nat) (b : By), Sz b → Sz (Brd.cleans s z t ms b).1
  | [], b, h => h
  | m :: ms, b, h => by
    unfold Brd.cleans
    split
    · exact h.clean s z t m
    · exact Sz.cleans s z t ms _ (h.clean s z t m)
theorem Sz.form (h : Sz b) (n : Nat) (m t : Int) : Sz (form b n m t) := by
  unfold Brd.form
  split
  · exact h
  · split
    · exact h
    · split
      · exact h
      · exact Sz.cleans _ _ _ _ _ h
theorem Sz.opened (h : Sz b) (n : Nat) : Sz (opened b n) := by
  unfold Brd.opened
  split
  · exact h
  · exact h.pub _ _
theorem get_size (h : Sz b) (i j : Int) : (b.get i j).size ≤ 64 := by
  unfold By.get
  split
  · exact Nat.zero_le _
  · unfold Mb.get
    split
    · rw [List.getD_eq_getElem?_getD]
      cases e : (b.at i.toNat).now[j.toNat]? with
      | none => exact Nat.zero_le _
      | some s => exact Nat.le_of_eq ((h.at _).now s (List.mem_of_getElem? e))
    · exact Nat.zero_le _
theorem tx_size (h : Sz b) (m : Nat) : ∀ s ∈ tx b m, s.size ≤ 64 := fun s hs => by
  unfold tx at hs
  rcases List.mem_append.1 hs with hs | hs
  · split at hs
    · rw [List.mem_singleton.1 hs]; exact get_size h _ _
    · simp at hs
  · split at hs
    · rw [List.mem_singleton.1 hs]; exact get_size h _ _
    · simp at hs
theorem txs_size (h : Sz b) (ms : List Nat) : ∀ s ∈ txs b ms, s.size ≤ 64 := fun s hs => by
  unfold txs at hs
  obtain ⟨m, _, hs⟩ := List.mem_flatMap.1 hs
  exact tx_size h m s hs
theorem tx_len (b : By) (m : Nat) : (tx b m).length ≤ 2 := by
  unfold tx
  rw [List.length_append]
  split <;> split <;> simp
theorem txs_len (b : By) : ∀ ms : List Nat, (txs b ms).length ≤ 2 * ms.length
  | [] => by simp [txs]
  | m :: ms => by
    have := txs_len b ms
    have := tx_len b m
    unfold txs at this ⊢
    rw [List.flatMap_cons, List.length_append, List.length_cons]
    unfold txs at *
    omega
end
end Go.Proofs.YtbbhcmfkkkjehaaGreat.Brd
