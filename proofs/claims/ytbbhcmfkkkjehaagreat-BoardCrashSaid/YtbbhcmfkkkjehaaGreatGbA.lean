/- A bay in memory, the program's and the document's; what its calls come to, in plain words. -/
import Derived.Test.YtbbhcmfkkkjehaaGreatGmC
import Derived.Deep.RegionHeld3
namespace Go.Proofs.YtbbhcmfkkkjehaaGreat.Bay
open Go.RowKit Go.Proofs.YtbbhcmfkkkjehaaGreat.Mem Go.Proofs.YtbbhcmfkkkjehaaGreat.Sep Go.Proofs.YtbbhcmfkkkjehaaGreat.Member
set_option linter.unusedVariables false
set_option linter.unusedSimpArgs false

/-- Is the power's end set; what is left; steps made; the members. -/
structure By where
  set : Bool
  left : Int
  steps : Int
  M : List Mb
def By.out (b : By) : Bool := b.set && decide (b.left ≤ 0)
/-- How much the document says is left. -/
def By.rest (b : By) : Int := if b.set then max 0 b.left else -1
def By.stepE (b : By) : Int := if b.set = true ∧ wrap64 (b.left + -1) < 0 then 21 else 0
def By.step (b : By) : By :=
  if b.set then (if wrap64 (b.left + -1) < 0 then { b with left := wrap64 (b.left + -1) } else { b with left := wrap64 (b.left + -1), steps := wrap64 (b.steps + 1) })
  else { b with steps := wrap64 (b.steps + 1) }
def By.thereE (b : By) (i : Int) : Int := if 0 ≤ i ∧ i < b.M.length then 0 else 11
def By.at (b : By) (i : Nat) : Mb := b.M.getD i (Mb.fresh 0)
def By.on (b : By) (i : Nat) (m : Mb) : By := { b with M := b.M.set i m }
def By.writeE (b : By) (i j : Int) (s : ByteArray) : Int := if b.thereE i ≠ 0 then 11 else if b.stepE ≠ 0 then 21 else (b.at i.toNat).putE j s
def By.write (b : By) (i j : Int) (s : ByteArray) : By := if b.thereE i ≠ 0 then b else if b.stepE ≠ 0 then b.step else b.step.on i.toNat ((b.at i.toNat).put j s)
def By.flushE (b : By) (i : Int) : Int := if b.thereE i ≠ 0 then 11 else if b.stepE ≠ 0 then 21 else (b.at i.toNat).flushE
def By.flush (b : By) (i : Int) : By := if b.thereE i ≠ 0 then b else if b.stepE ≠ 0 then b.step else b.step.on i.toNat (b.at i.toNat).flush
def By.readE (b : By) (i j : Int) : Int := if b.thereE i ≠ 0 then 11 else if b.out then 21 else (b.at i.toNat).may j
def By.get (b : By) (i j : Int) : ByteArray := if b.thereE i ≠ 0 ∨ b.out = true then ⟨#[]⟩ else (b.at i.toNat).get j
def By.cut (b : By) (k : Int) : By := { b with set := true, left := max 0 k }
def By.live (b : By) : List Nat := (List.range b.M.length).filter fun i => !(b.at i).dead
/-- Each member with its words; none behind these. -/
def crashes (KS : List (List Nat)) (M : List Mb) : List Mb := M.mapIdx fun i m => m.crash (KS.getD i [])
def By.crash (b : By) (KS : List (List Nat)) : By := { b with set := false, M := crashes KS b.M }
/-- The words' end: 1 to 32. -/
def caps (k : Int) : Nat := (max 1 (min k 32)).toNat
theorem caps_le (k : Int) : 1 ≤ caps k ∧ caps k ≤ 32 := by unfold caps; omega
theorem caps_eq (k : Int) : max 1 (min k 32) = (caps k : Nat) := by unfold caps; omega
def By.fresh (k n : Nat) : By := ⟨false, 0, 0, List.replicate k (Mb.fresh n)⟩
end Go.Proofs.YtbbhcmfkkkjehaaGreat.Bay
/- A member whose counts nobody asks for; many of them behind one box. -/
namespace Go.Proofs.YtbbhcmfkkkjehaaGreat.Bay
open Go.RowKit Go.Proofs.YtbbhcmfkkkjehaaGreat.Mem Go.Proofs.YtbbhcmfkkkjehaaGreat.Sep Go.Proofs.YtbbhcmfkkkjehaaGreat.Member
set_option linter.unusedVariables false
set_option linter.unusedSimpArgs false

abbrev Cn := Int × Int × Int × Int
def cnt (m : Mb) (k : Cn) : Mb := { m with r := k.1, w := k.2.1, f := k.2.2.1, p := k.2.2.2 }
def memz (F n : Nat) (m : Mb) : Asn := ex fun k : Cn => member F n (cnt m k)
def rmemz (F n : Nat) (m : Mb) : Asn := ex fun k : Cn => rmem F n (cnt m k)
section
variable {w0 w : World} {F n : Nat} {m : Mb} {L : List Asn}
theorem memz_of (h : Sp w0 (member F n m :: L) w) : Sp w0 (memz F n m :: L) w := Sp.close (F := fun k : Cn => member F n (cnt m k)) (x := (m.r, m.w, m.f, m.p)) h
theorem rmemz_of (h : Sp w0 (rmem F n m :: L) w) : Sp w0 (rmemz F n m :: L) w := Sp.close (F := fun k : Cn => rmem F n (cnt m k)) (x := (m.r, m.w, m.f, m.p)) h
theorem memz_cnt {k : Cn} (h : Sp w0 (member F n (cnt m k) :: L) w) : Sp w0 (memz F n m :: L) w := Sp.close (F := fun k : Cn => member F n (cnt m k)) h
theorem rmemz_cnt {k : Cn} (h : Sp w0 (rmem F n (cnt m k) :: L) w) : Sp w0 (rmemz F n m :: L) w := Sp.close (F := fun k : Cn => rmem F n (cnt m k)) h
theorem memz_open (h : Sp w0 (memz F n m :: L) w) : ∃ k, Sp w0 (member F n (cnt m k) :: L) w := h.open
theorem rmemz_open (h : Sp w0 (rmemz F n m :: L) w) : ∃ k, Sp w0 (rmem F n (cnt m k) :: L) w := h.open
theorem memz_ok (h : Sp w0 (memz F n m :: L) w) : m.ok n := by
  obtain ⟨k, h⟩ := memz_open h
  have := mbOk h
  exact ⟨this.las, this.now, this.q⟩
theorem cnt_put (k : Cn) (i : Int) (s : ByteArray) : ∃ k', (cnt m k).put i s = cnt (m.put i s) k' := by
  unfold Mb.put
  have e : (cnt m k).putE i s = m.putE i s := rfl
  rw [e]
  split
  · exact ⟨(k.1, wrap64 (k.2.1 + 1), k.2.2.1, k.2.2.2), rfl⟩
  · exact ⟨k, rfl⟩
theorem cnt_read (k : Cn) (i : Int) : ∃ k', (cnt m k).read i = cnt m k' := by
  unfold Mb.read
  split
  · exact ⟨(wrap64 (k.1 + 1), k.2.1, k.2.2.1, k.2.2.2), rfl⟩
  · exact ⟨k, rfl⟩
theorem cnt_flush (k : Cn) : ∃ k', (cnt m k).flush = cnt m.flush k' := by
  unfold Mb.flush
  have e : (cnt m k).dead = m.dead := rfl
  rw [e]
  cases m.dead
  · exact ⟨(k.1, k.2.1, wrap64 (k.2.2.1 + 1), k.2.2.2), rfl⟩
  · exact ⟨k, rfl⟩
theorem cnt_crash (k : Cn) (K : List Nat) : (cnt m k).crash K = cnt (m.crash K) k := by
  unfold Mb.crash
  have e : (cnt m k).dead = m.dead := rfl
  rw [e]
  cases m.dead <;> rfl
theorem cnt_fail (k : Cn) : (cnt m k).fail = cnt m.fail k := rfl
theorem cnt_replace (k : Cn) : ∃ k', (cnt m k).replace = cnt m.replace k' := ⟨(k.1, k.2.1, k.2.2.1, wrap64 (k.2.2.2 + 1)), rfl⟩
theorem cnt_rot (k : Cn) (i : Int) (s : ByteArray) : (cnt m k).rot i s = cnt (m.rot i s) k := by
  unfold Mb.rot
  have e : (cnt m k).rotB i s = m.rotB i s := rfl
  rw [e]
  cases m.rotB i s <;> rfl
end
/-- Many. -/
def mems (n : Nat) (ps : List Nat) (M : List Mb) : List Asn := List.zipWith (fun p m => memz p n m) ps M
def rmems (n : Nat) (ps : List Nat) (M : List Mb) : List Asn := List.zipWith (fun p m => rmemz p n m) ps M
def ptrs (ps : List Nat) : List Value := ps.map fun p => .pointer (some ⟨p, 0, none⟩)
theorem zip_at {α β γ : Type} {f : α → β → γ} {l : List α} {M : List β} {i : Nat} {a : α} {b : β} (h1 : l[i]? = some a) (h2 : M[i]? = some b) : (List.zipWith f l M)[i]? = some (f a b) := by
  rw [List.getElem?_zipWith, h1, h2]
theorem zip_set {α β γ : Type} {f : α → β → γ} {a : α} {b : β} : ∀ {l : List α} {M : List β} {i : Nat}, l[i]? = some a → (List.zipWith f l M).set i (f a b) = List.zipWith f l (M.set i b)
  | [], _, _, h => by simp at h
  | _ :: _, [], _, _ => by simp
  | x :: l, y :: M, 0, h => by
    obtain rfl : x = a := by simpa using h
    rfl
  | x :: l, y :: M, i + 1, h => by
    simp only [List.zipWith_cons_cons, List.set_cons_succ]
    rw [zip_set (l := l) (M := M) (i := i) (by simpa using h)]
theorem erase_insert {α : Type} {A : α} : ∀ {L : List α} {i : Nat}, i < L.length → (L.eraseIdx i).insertIdx i A = L.set i A
  | a :: L, 0, _ => rfl
  | a :: L, i + 1, h => by
    simp only [List.eraseIdx_cons_succ, List.insertIdx_succ_cons, List.set_cons_succ]
    rw [erase_insert (by simpa using h)]
def bbox (b : By) (v : Value) : Array Value := #[.int .u32 (if b.set then 1 else 0), .int .i64 b.left, .int .i64 b.steps, v]
def bparts (B : Nat) (ps : List Nat) (n : Nat) (b : By) (v : Value) : List Asn :=
  blk B (bbox b v) 133 :: row 47 1 v ps.length (ptrs ps) :: mems n ps b.M
/-- A bay of members of n sectors at ps. -/
def bay (B : Nat) (ps : List Nat) (n : Nat) (b : By) : Asn := fact (ps.length = b.M.length) (ex fun v : Value => stars (bparts B ps n b v))
def rbbox (b : By) (v : Value) : Array Value := #[v, .int .i64 b.steps, .int .i64 b.rest]
def rbparts (B : Nat) (ps : List Nat) (n : Nat) (b : By) (v : Value) : List Asn :=
  blk B (rbbox b v) 63 :: row 60 1 v ps.length (ptrs ps) :: rmems n ps b.M
/-- The document's. -/
def rbay (B : Nat) (ps : List Nat) (n : Nat) (b : By) : Asn := fact (ps.length = b.M.length) (ex fun v : Value => stars (rbparts B ps n b v))
section
variable {w0 w : World} {B n : Nat} {ps : List Nat} {b : By} {L : List Asn}
theorem bayOpen (h : Sp w0 (bay B ps n b :: L) w) : ps.length = b.M.length ∧ ∃ v, Sp w0 (blk B (bbox b v) 133 :: row 47 1 v ps.length (ptrs ps) :: (mems n ps b.M ++ L)) w := by
  obtain ⟨ho, h⟩ := h.fact
  obtain ⟨v, h⟩ := h.open
  exact ⟨ho, v, h.unpack⟩
theorem bayClose {v : Value} (ho : ps.length = b.M.length) (h : Sp w0 (blk B (bbox b v) 133 :: row 47 1 v ps.length (ptrs ps) :: (mems n ps b.M ++ L)) w) : Sp w0 (bay B ps n b :: L) w :=
  Sp.mkfact ho (Sp.close (F := fun v : Value => stars (bparts B ps n b v)) (x := v) (Sp.pack (M := bparts B ps n b v) h))
theorem rbayOpen (h : Sp w0 (rbay B ps n b :: L) w) : ps.length = b.M.length ∧ ∃ v, Sp w0 (blk B (rbbox b v) 63 :: row 60 1 v ps.length (ptrs ps) :: (rmems n ps b.M ++ L)) w := by
  obtain ⟨ho, h⟩ := h.fact
  obtain ⟨v, h⟩ := h.open
  exact ⟨ho, v, h.unpack⟩
theorem rbayClose {v : Value} (ho : ps.length = b.M.length) (h : Sp w0 (blk B (rbbox b v) 63 :: row 60 1 v ps.length (ptrs ps) :: (rmems n ps b.M ++ L)) w) : Sp w0 (rbay B ps n b :: L) w :=
  Sp.mkfact ho (Sp.close (F := fun v : Value => stars (rbparts B ps n b v)) (x := v) (Sp.pack (M := rbparts B ps n b v) h))
theorem By.on_length (b : By) (i : Nat) (m : Mb) : (b.on i m).M.length = b.M.length := by simp [By.on]
/-- One of them taken out, and put back. -/
theorem mems_member {A C : Asn} {M : List Mb} {i p : Nat} {m : Mb} (h1 : Sp w0 (A :: C :: (mems n ps M ++ L)) w) (hp : ps[i]? = some p) (hm : M[i]? = some m) :
    ∃ X, Sp w0 (memz p n m :: (X ++ L)) w ∧ ∀ w' m', Sp w0 (memz p n m' :: (X ++ L)) w' → Sp w0 (A :: C :: (mems n ps (M.set i m') ++ L)) w' := by
  have hl := (List.getElem?_eq_some_iff.1 hp).1
  have hl2 := (List.getElem?_eq_some_iff.1 hm).1
  have hlm : i < (mems n ps M).length := by unfold mems; rw [List.length_zipWith]; omega
  have hi : (A :: C :: (mems n ps M ++ L))[i + 2]? = some (memz p n m) := by
    rw [List.getElem?_cons_succ, List.getElem?_cons_succ, List.getElem?_append_left hlm]
    exact zip_at hp hm
  have hX : (A :: C :: (mems n ps M ++ L)).eraseIdx (i + 2) = (A :: C :: (mems n ps M).eraseIdx i) ++ L := by
    rw [List.eraseIdx_cons_succ, List.eraseIdx_cons_succ, List.eraseIdx_append_of_lt_length hlm]; rfl
  have h4 := h1.front (i + 2) hi
  rw [hX] at h4
  refine ⟨_, h4, fun w' m' h2 => ?_⟩
  rw [← hX] at h2
  have h3 := h2.back (i + 2)
  rw [erase_insert (List.getElem?_eq_some_iff.1 hi).1] at h3
  rw [List.set_cons_succ, List.set_cons_succ, List.set_append_left _ _ hlm] at h3
  have e : (mems n ps M).set i (memz p n m') = mems n ps (M.set i m') := by
    unfold mems
    exact zip_set (f := fun p m => memz p n m) hp
  rw [e] at h3
  exact h3
theorem rmems_member {A C : Asn} {M : List Mb} {i p : Nat} {m : Mb} (h1 : Sp w0 (A :: C :: (rmems n ps M ++ L)) w) (hp : ps[i]? = some p) (hm : M[i]? = some m) :
    ∃ X, Sp w0 (rmemz p n m :: (X ++ L)) w ∧ ∀ w' m', Sp w0 (rmemz p n m' :: (X ++ L)) w' → Sp w0 (A :: C :: (rmems n ps (M.set i m') ++ L)) w' := by
  have hl := (List.getElem?_eq_some_iff.1 hp).1
  have hl2 := (List.getElem?_eq_some_iff.1 hm).1
  have hlm : i < (rmems n ps M).length := by unfold rmems; rw [List.length_zipWith]; omega
  have hi : (A :: C :: (rmems n ps M ++ L))[i + 2]? = some (rmemz p n m) := by
    rw [List.getElem?_cons_succ, List.getElem?_cons_succ, List.getElem?_append_left hlm]
    exact zip_at hp hm
  have hX : (A :: C :: (rmems n ps M ++ L)).eraseIdx (i + 2) = (A :: C :: (rmems n ps M).eraseIdx i) ++ L := by
    rw [List.eraseIdx_cons_succ, List.eraseIdx_cons_succ, List.eraseIdx_append_of_lt_length hlm]; rfl
  have h4 := h1.front (i + 2) hi
  rw [hX] at h4
  refine ⟨_, h4, fun w' m' h2 => ?_⟩
  rw [← hX] at h2
  have h3 := h2.back (i + 2)
  rw [erase_insert (List.getElem?_eq_some_iff.1 hi).1] at h3
  rw [List.set_cons_succ, List.set_cons_succ, List.set_append_left _ _ hlm] at h3
  have e : (rmems n ps M).set i (rmemz p n m') = rmems n ps (M.set i m') := by
    unfold rmems
    exact zip_set (f := fun p m => rmemz p n m) hp
  rw [e] at h3
  exact h3
theorem bay_member {i p : Nat} {m : Mb} (h : Sp w0 (bay B ps n b :: L) w) (hp : ps[i]? = some p) (hm : b.M[i]? = some m) :
    ∃ X, Sp w0 (memz p n m :: (X ++ L)) w ∧ ∀ w' m', Sp w0 (memz p n m' :: (X ++ L)) w' → Sp w0 (bay B ps n (b.on i m') :: L) w' := by
  obtain ⟨ho, v, h1⟩ := bayOpen h
  obtain ⟨X, h2, h3⟩ := mems_member h1 hp hm
  exact ⟨X, h2, fun w' m' h4 => bayClose (b := b.on i m') (v := v) (by rw [By.on_length]; exact ho) (h3 w' m' h4)⟩
theorem rbay_member {i p : Nat} {m : Mb} (h : Sp w0 (rbay B ps n b :: L) w) (hp : ps[i]? = some p) (hm : b.M[i]? = some m) :
    ∃ X, Sp w0 (rmemz p n m :: (X ++ L)) w ∧ ∀ w' m', Sp w0 (rmemz p n m' :: (X ++ L)) w' → Sp w0 (rbay B ps n (b.on i m') :: L) w' := by
  obtain ⟨ho, v, h1⟩ := rbayOpen h
  obtain ⟨X, h2, h3⟩ := rmems_member h1 hp hm
  exact ⟨X, h2, fun w' m' h4 => rbayClose (b := b.on i m') (v := v) (by rw [By.on_length]; exact ho) (h3 w' m' h4)⟩
end
end Go.Proofs.YtbbhcmfkkkjehaaGreat.Bay
/- A member's calls, its counts aside. -/
namespace Go.Proofs.YtbbhcmfkkkjehaaGreat.Bay
open Go.RowKit Go.Proofs.YtbbhcmfkkkjehaaGreat.Mem Go.Proofs.YtbbhcmfkkkjehaaGreat.Sep Go.Proofs.YtbbhcmfkkkjehaaGreat.Member
set_option linter.unusedVariables false
set_option linter.unusedSimpArgs false
section
variable {w0 w : World} {F n : Nat} {m : Mb} {L : List Asn}
theorem zwrite (h : Sp w0 (memz F n m :: L) w) (hq : m.q.length < 1000000) (i : Int) (s : ByteArray) :
    Calls Tryz.prog 55 #[.pointer (some ⟨F, 0, none⟩), .int .i64 i, .string s] w fun e w' => e = .returned (.int .i64 (m.putE i s)) ∧ Sp w0 (memz F n (m.put i s) :: L) w' := by
  obtain ⟨k, h⟩ := memz_open h
  refine (write_calls h hq i s).mono ?_
  rintro e w' ⟨rfl, h2⟩
  obtain ⟨k', e⟩ := cnt_put (m := m) k i s
  rw [e] at h2
  exact ⟨rfl, memz_cnt h2⟩
theorem zread (h : Sp w0 (memz F n m :: L) w) (i : Int) :
    Calls Tryz.prog 34 #[.pointer (some ⟨F, 0, none⟩), .int .i64 i] w fun e w' => e = .returned (.tuple #[.string (m.get i), .int .i64 (m.may i)]) ∧ Sp w0 (memz F n m :: L) w' := by
  obtain ⟨k, h⟩ := memz_open h
  refine (read_calls h i).mono ?_
  rintro e w' ⟨rfl, h2⟩
  obtain ⟨k', e⟩ := cnt_read (m := m) k i
  rw [e] at h2
  exact ⟨rfl, memz_cnt h2⟩
theorem zflush (h : Sp w0 (memz F n m :: L) w) :
    Calls Tryz.prog 157 #[.pointer (some ⟨F, 0, none⟩)] w fun e w' => e = .returned (.int .i64 m.flushE) ∧ Sp w0 (memz F n m.flush :: L) w' := by
  obtain ⟨k, h⟩ := memz_open h
  refine (flush_calls h).mono ?_
  rintro e w' ⟨rfl, h2⟩
  obtain ⟨k', e⟩ := cnt_flush (m := m) k
  rw [e] at h2
  exact ⟨rfl, memz_cnt h2⟩
theorem zcrash (h : Sp w0 (memz F n m :: L) w) (hq : m.q.length ≤ 1000000) (a : Option Addr) (c : Nat) (K : List Nat) (hKl : K.length ≤ 9223372036854775807) (hK : ∀ L' w', Sp w0 (L' ++ L) w' → U64s w' a K) :
    Calls Tryz.prog 95 #[.pointer (some ⟨F, 0, none⟩), .slice a K.length c] w fun e w' => e = .returned (.tuple #[]) ∧ Sp w0 (memz F n (m.crash K) :: L) w' := by
  obtain ⟨k, h⟩ := memz_open h
  refine (crash_calls h hq a c K hKl hK).mono ?_
  rintro e w' ⟨rfl, h2⟩
  rw [cnt_crash] at h2
  exact ⟨rfl, memz_cnt h2⟩
theorem zfail (h : Sp w0 (memz F n m :: L) w) :
    Calls Tryz.prog 27 #[.pointer (some ⟨F, 0, none⟩)] w fun e w' => e = .returned (.tuple #[]) ∧ Sp w0 (memz F n m.fail :: L) w' := by
  obtain ⟨k, h⟩ := memz_open h
  refine (fail_calls h).mono ?_
  rintro e w' ⟨rfl, h2⟩
  rw [cnt_fail] at h2
  exact ⟨rfl, memz_cnt h2⟩
theorem zdead (h : Sp w0 (memz F n m :: L) w) :
    Calls Tryz.prog 17 #[.pointer (some ⟨F, 0, none⟩)] w fun e w' => e = .returned (.bool m.dead) ∧ w = w' := by
  obtain ⟨k, h⟩ := memz_open h
  have h2 := dead_calls h
  exact h2
theorem zsize (h : Sp w0 (memz F n m :: L) w) :
    Calls Tryz.prog 117 #[.pointer (some ⟨F, 0, none⟩)] w fun e w' => e = .returned (.int .i64 n) ∧ w = w' := by
  obtain ⟨k, h⟩ := memz_open h
  have h2 := size_calls h
  exact h2
theorem zreplace (h : Sp w0 (memz F n m :: L) w) (hn1 : 1 ≤ n) (hn : n ≤ 256) :
    Calls Tryz.prog 63 #[.pointer (some ⟨F, 0, none⟩)] w fun e w' => e = .returned (.tuple #[]) ∧ Sp w0 (memz F n m.replace :: L) w' := by
  obtain ⟨k, h⟩ := memz_open h
  refine (replace_calls h hn1 hn).mono ?_
  rintro e w' ⟨rfl, h2⟩
  obtain ⟨k', e⟩ := cnt_replace (m := m) k
  rw [e] at h2
  exact ⟨rfl, memz_cnt h2⟩
theorem znew (h : Sp w0 L w) (s : Int) :
    Calls Tryz.prog 67 #[.int .i64 s] w fun e w' => ∃ F, e = .returned (.pointer (some ⟨F, 0, none⟩)) ∧ Sp w0 (memz F (cap s) (Mb.fresh (cap s)) :: L) w' := by
  refine (new_calls h s).mono ?_
  rintro e w' ⟨F, rfl, h2⟩
  exact ⟨F, rfl, memz_of h2⟩
end
end Go.Proofs.YtbbhcmfkkkjehaaGreat.Bay
/- A bay's calls walked: the fuse, Size, Member, there, Write, Flush, Read, Off, Steps, Cut. -/
namespace Go.Proofs.YtbbhcmfkkkjehaaGreat.Bay
open Go.RowKit Go.Proofs.YtbbhcmfkkkjehaaGreat.Mem Go.Proofs.YtbbhcmfkkkjehaaGreat.Sep Go.Proofs.YtbbhcmfkkkjehaaGreat.Member
open Go.Proofs.YtbbhcmfkkkjehaaGreatW.PrintWords hiding bt
set_option linter.unusedVariables false
set_option linter.unusedSimpArgs false

section
variable {w0 w : World} {B n : Nat} {ps : List Nat} {b : By} {L : List Asn}
/-! The numbers that go up at the same time. -/
theorem addk_calls (q o : Nat) (x k : Int) (w : World) (hc : w.cell? ⟨q, o, none⟩ = some (.int .i64 x)) (hz : w.frozen? ⟨q, o, none⟩ = false) :
    Calls Tryz.prog 88 #[.pointer (some ⟨q, o, none⟩), .int .i64 k] w fun e w' => e = .returned (.int .i64 (wrap64 (x + k))) ∧ w' = w.setCell ⟨q, o, none⟩ (.int .i64 (wrap64 (x + k))) := by
  have hr : (callFunc 136 #[.pointer (some ⟨q, o, none⟩), .int .i64 k]).run Tryz.prog w = .ok (.value (.int .i64 (wrap64 (x + k)))) (w.setCell ⟨q, o, none⟩ (.int .i64 (wrap64 (x + k)))) :=
    run_call_add Tryz.func136 (by kernel_rfl) (by kernel_rfl) (by kernel_rfl) .i64 (by kernel_rfl) hc hz (by simp [go_sem, wrap64, IntKind.wrap_i64])
  go_enter Tryz.func88, Tryz.ntmps88
  go_wp2
  go_ret
  exact ⟨rfl, rfl⟩
theorem store_calls (q o : Nat) (u : Value) (k : Int) (w : World) (hc : w.cell? ⟨q, o, none⟩ = some u) (hz : w.frozen? ⟨q, o, none⟩ = false) :
    Calls Tryz.prog 93 #[.pointer (some ⟨q, o, none⟩), .int .i64 k] w fun e w' => e = .returned (.tuple #[]) ∧ w' = w.setCell ⟨q, o, none⟩ (.int .i64 k) := by
  have hr : (callFunc 137 #[.pointer (some ⟨q, o, none⟩), .int .i64 k]).run Tryz.prog w = .ok (.value (.tuple #[])) (w.setCell ⟨q, o, none⟩ (.int .i64 k)) :=
    run_call_store Tryz.func137 (by kernel_rfl) (by kernel_rfl) (by kernel_rfl) (by kernel_rfl) hc hz
  go_enter Tryz.func93, Tryz.ntmps93
  go_wp2
  first | go_end0 | refine bodyPost_ret (results_none rfl _ _ _) rfl ?_
  exact ⟨rfl, rfl⟩
theorem bload_calls (q o : Nat) (s : Bool) (w : World) (hc : w.cell? ⟨q, o, none⟩ = some (.int .u32 (if s then 1 else 0))) :
    Calls Tryz.prog 120 #[.pointer (some ⟨q, o, none⟩)] w fun e w' => e = .returned (.bool s) ∧ w = w' := by
  have hr : (callFunc 160 #[.pointer (some ⟨q, o, none⟩)]).run Tryz.prog w = .ok (.value (.int .u32 (if s then 1 else 0))) w :=
    run_call_load Tryz.func160 (by kernel_rfl) (by kernel_rfl) (by kernel_rfl) .u32 (by kernel_rfl) hc
  cases s
  all_goals
    go_enter Tryz.func120, Tryz.ntmps120
    go_wp2
    go_ret
    exact ⟨rfl, rfl⟩
theorem b32_calls (s : Bool) (w : World) : Calls Tryz.prog 139 #[.bool s] w fun e w' => e = .returned (.int .u32 (if s then 1 else 0)) ∧ w = w' := by
  cases s
  all_goals
    go_enter Tryz.func139, Tryz.ntmps139
    go_wp2
    go_ret
    exact ⟨rfl, rfl⟩
theorem bstore_calls (q o : Nat) (u : Value) (s : Bool) (w : World) (hc : w.cell? ⟨q, o, none⟩ = some u) (hz : w.frozen? ⟨q, o, none⟩ = false) :
    Calls Tryz.prog 94 #[.pointer (some ⟨q, o, none⟩), .bool s] w fun e w' => e = .returned (.tuple #[]) ∧ w' = (w.setCell ⟨q, o, none⟩ (.int .u32 (if s then 1 else 0))).drew := by
  have hr : (callFunc 138 #[.pointer (some ⟨q, o, none⟩), .int .u32 (if s then 1 else 0)]).run Tryz.prog w.drew = .ok (.value (.tuple #[])) (w.setCell ⟨q, o, none⟩ (.int .u32 (if s then 1 else 0))).drew :=
    run_call_store (w := w.drew) Tryz.func138 (by kernel_rfl) (by kernel_rfl) (by kernel_rfl) (by kernel_rfl) hc hz
  have HB := Lib.hid (b32_calls s w.drew)
  generalize hx : (if s then (1 : Int) else 0) = x at hr HB ⊢
  clear hx
  go_enter Tryz.func94, Tryz.ntmps94
  go_region_with (first | (go_at_call 139; refine HB.out.mono ?_; rintro e w' ⟨rfl, rfl⟩))
  all_goals go_wp2
  all_goals first | go_end0 | refine bodyPost_ret (results_none rfl _ _ _) rfl ?_
  all_goals exact ⟨rfl, rfl⟩
/-! What of a bay is read. -/
structure Bds (w : World) (B : Nat) (ps : List Nat) (b : By) (a : Option Addr) (c : Nat) : Prop where
  c0 : w.cell? ⟨B, 0, none⟩ = some (.int .u32 (if b.set then 1 else 0))
  c1 : w.cell? ⟨B, 1, none⟩ = some (.int .i64 b.left)
  c2 : w.cell? ⟨B, 2, none⟩ = some (.int .i64 b.steps)
  c3 : w.cell? ⟨B, 3, none⟩ = some (.slice a ps.length c)
  f : ∀ i, w.frozen? ⟨B, i, none⟩ = false
  p : ∀ (k : Nat) p, ps[k]? = some p → ∃ g, a = some ⟨g, 0, none⟩ ∧ w.cell? ⟨g, k, none⟩ = some (.pointer (some ⟨p, 0, none⟩))
  len : ps.length = b.M.length
theorem ptrs_at {ps : List Nat} {k p : Nat} (h : ps[k]? = some p) : (ptrs ps)[k]? = some (.pointer (some ⟨p, 0, none⟩)) := by unfold ptrs; simp [h]
theorem bds (h : Sp w0 (bay B ps n b :: L) w) : ∃ a c, Bds w B ps b a c := by
  obtain ⟨ho, v, h1⟩ := bayOpen h
  have hb := h1.blk (List.mem_cons_self ..)
  have hr := h1.row (v := v) (n := ps.length) (xs := ptrs ps) (T := 47) (size := 1) (List.mem_cons_of_mem _ (List.mem_cons_self ..))
  obtain ⟨a, c, rfl⟩ := Member.own_slice hr
  exact ⟨a, c, hb.cell 0, hb.cell 1, hb.cell 2, hb.cell 3, hb.frozen, fun k p hp => row_cell hr (ptrs_at hp), ho⟩
/-- A word of the box is another one. -/
theorem bset {b' : By} (h : Sp w0 (bay B ps n b :: L) w) (i : Nat) (x : Value) (hM : b'.M = b.M) (hx : ∀ v, (bbox b v).setIfInBounds i x = bbox b' v) : Sp w0 (bay B ps n b' :: L) (w.setCell ⟨B, i, none⟩ x) := by
  obtain ⟨ho, v, h1⟩ := bayOpen h
  have h2 := h1.set i x
  rw [hx, ← hM] at h2
  exact bayClose (by rw [hM]; exact ho) h2
theorem out_calls (h : Sp w0 (bay B ps n b :: L) w) : Calls Tryz.prog 141 #[.pointer (some ⟨B, 0, none⟩)] w fun e w' => e = .returned (.bool b.out) ∧ w = w' := by
  obtain ⟨a, c, hr⟩ := bds h
  have HL := Lib.hid (bload_calls B 0 b.set w hr.c0)
  have HL2 := Lib.hid (load_calls B 1 b.left w hr.c1)
  unfold By.out
  clear h hr
  obtain ⟨s, hs⟩ : ∃ s, s = b.set := ⟨_, rfl⟩
  obtain ⟨l, hl⟩ : ∃ l, l = b.left := ⟨_, rfl⟩
  rw [← hs] at HL ⊢
  rw [← hl] at HL2 ⊢
  clear hs hl
  cases s
  · go_enter Tryz.func141, Tryz.ntmps141
    go_wp2_with fail
    refine HL.out.mono ?_
    rintro e w' ⟨rfl, rfl⟩
    go_wp2
    go_ret
    exact ⟨rfl, rfl⟩
  · go_enter Tryz.func141, Tryz.ntmps141
    go_wp2_with fail
    refine HL.out.mono ?_
    rintro e w' ⟨rfl, rfl⟩
    go_wp2_with fail
    refine HL2.out.mono ?_
    rintro e w' ⟨rfl, rfl⟩
    go_wp2
    go_ret
    exact ⟨by simp, rfl⟩
theorem step_calls (h : Sp w0 (bay B ps n b :: L) w) : Calls Tryz.prog 70 #[.pointer (some ⟨B, 0, none⟩)] w fun e w' => e = .returned (.int .i64 b.stepE) ∧ Sp w0 (bay B ps n b.step :: L) w' := by
  obtain ⟨a, c, hr⟩ := bds h
  have HL := Lib.hid (bload_calls B 0 b.set w hr.c0)
  have HA := Lib.hid (addk_calls B 1 b.left (-1) w hr.c1 (hr.f 1))
  have HB := Lib.hid (addk_calls B 2 b.steps 1 w hr.c2 (hr.f 2))
  cases hs : b.set
  · have hE : b.stepE = 0 := by unfold By.stepE; rw [if_neg (by rw [hs]; simp)]
    have hS : b.step = { b with steps := wrap64 (b.steps + 1) } := by unfold By.step; rw [hs]; rfl
    rw [hE, hS]
    rw [hs] at HL
    have HF := Lib.hid (bset (b' := { b with steps := wrap64 (b.steps + 1) }) h 2 (.int .i64 (wrap64 (b.steps + 1))) rfl (fun v => rfl))
    clear h hr hE hS hs HA
    go_enter Tryz.func70, Tryz.ntmps70
    go_wp2_with fail
    refine HL.out.mono ?_
    rintro e w' ⟨rfl, rfl⟩
    go_wp2_with fail
    refine HB.out.mono ?_
    rintro e w' ⟨rfl, rfl⟩
    go_wp2
    go_ret
    exact ⟨rfl, HF.out⟩
  · rw [hs] at HL
    have hF1 := bset (b' := { b with left := wrap64 (b.left + -1) }) h 1 (.int .i64 (wrap64 (b.left + -1))) rfl (fun v => rfl)
    obtain ⟨l, hl⟩ : ∃ l, l = wrap64 (b.left + -1) := ⟨_, rfl⟩
    rw [← hl] at HA hF1
    by_cases hl0 : l < 0
    · have hE : b.stepE = 21 := by unfold By.stepE; rw [if_pos ⟨hs, by rw [← hl]; exact hl0⟩]
      have hS : b.step = { b with left := l } := by unfold By.step; rw [hs, ← hl]; simp [hl0]
      rw [hE, hS]
      have d0 : decide (l < 0) = true := decide_eq_true hl0
      have HF := Lib.hid hF1
      clear h hr hE hS hs hl hF1 HB
      go_enter Tryz.func70, Tryz.ntmps70
      go_wp2_with fail
      refine HL.out.mono ?_
      rintro e w' ⟨rfl, rfl⟩
      go_wp2_with fail
      refine HA.out.mono ?_
      rintro e w' ⟨rfl, rfl⟩
      go_wp2
      go_ret
      exact ⟨rfl, HF.out⟩
    · have hE : b.stepE = 0 := by unfold By.stepE; rw [if_neg (by rw [← hl]; simp [hl0])]
      have hS : b.step = { b with left := l, steps := wrap64 (b.steps + 1) } := by unfold By.step; rw [hs, ← hl]; simp [hl0]
      rw [hE, hS]
      have d0 : decide (l < 0) = false := decide_eq_false hl0
      obtain ⟨a', c', hr'⟩ := bds hF1
      have HB2 := Lib.hid (addk_calls B 2 b.steps 1 _ hr'.c2 (hr'.f 2))
      have HF := Lib.hid (bset (b' := { b with left := l, steps := wrap64 (b.steps + 1) }) hF1 2 (.int .i64 (wrap64 (b.steps + 1))) rfl (fun v => rfl))
      clear h hr hr' hE hS hs hl hF1 HB
      go_enter Tryz.func70, Tryz.ntmps70
      go_wp2_with fail
      refine HL.out.mono ?_
      rintro e w' ⟨rfl, rfl⟩
      go_wp2_with fail
      refine HA.out.mono ?_
      rintro e w' ⟨rfl, rfl⟩
      go_wp2_with fail
      refine HB2.out.mono ?_
      rintro e w' ⟨rfl, rfl⟩
      go_wp2
      go_ret
      exact ⟨rfl, HF.out⟩
theorem bsize_nil (w : World) : Calls Tryz.prog 50 #[.pointer none] w fun e w' => e = .returned (.int .i64 0) ∧ w = w' := by
  go_enter Tryz.func50, Tryz.ntmps50
  go_wp2
  go_ret
  exact ⟨rfl, rfl⟩
theorem bsize_calls (h : Sp w0 (bay B ps n b :: L) w) : Calls Tryz.prog 50 #[.pointer (some ⟨B, 0, none⟩)] w fun e w' => e = .returned (.int .i64 b.M.length) ∧ w = w' := by
  obtain ⟨a, c, hr⟩ := bds h
  have c3 := hr.c3
  rw [hr.len] at c3
  clear h hr
  go_enter Tryz.func50, Tryz.ntmps50
  go_wp2
  go_ret
  exact ⟨rfl, rfl⟩
theorem bmember_nil (i : Int) (w : World) : Calls Tryz.prog 16 #[.pointer none, .int .i64 i] w fun e w' => e = .returned (.pointer none) ∧ w = w' := by
  by_cases h1 : i < 0
  · have d1 : decide (i < 0) = true := decide_eq_true h1
    go_enter Tryz.func16, Tryz.ntmps16
    go_wp2
    go_ret
    exact ⟨rfl, rfl⟩
  · have d1 : decide (i < 0) = false := decide_eq_false h1
    have d2 : decide ((0 : Int) ≤ i) = true := decide_eq_true (by omega)
    go_enter Tryz.func16, Tryz.ntmps16
    go_wp2_with fail
    refine (bsize_nil w).mono ?_
    rintro e w' ⟨rfl, rfl⟩
    go_wp2
    go_ret
    exact ⟨rfl, rfl⟩
theorem bmember_no (h : Sp w0 (bay B ps n b :: L) w) (i : Int) (hi : ¬ (0 ≤ i ∧ i < b.M.length)) : Calls Tryz.prog 16 #[.pointer (some ⟨B, 0, none⟩), .int .i64 i] w fun e w' => e = .returned (.pointer none) ∧ w = w' := by
  have HS := Lib.hid (bsize_calls h)
  obtain ⟨N, hN⟩ : ∃ N, N = b.M.length := ⟨_, rfl⟩
  rw [← hN] at HS hi
  clear h hN
  by_cases h1 : i < 0
  · have d1 : decide (i < 0) = true := decide_eq_true h1
    go_enter Tryz.func16, Tryz.ntmps16
    go_wp2
    go_ret
    exact ⟨rfl, rfl⟩
  · have d1 : decide (i < 0) = false := decide_eq_false h1
    have d2 : decide ((N : Int) ≤ i) = true := decide_eq_true (by omega)
    go_enter Tryz.func16, Tryz.ntmps16
    go_wp2_with fail
    refine HS.out.mono ?_
    rintro e w' ⟨rfl, rfl⟩
    go_wp2
    go_ret
    exact ⟨rfl, rfl⟩
theorem bmember_yes (h : Sp w0 (bay B ps n b :: L) w) (i p : Nat) (hp : ps[i]? = some p) : Calls Tryz.prog 16 #[.pointer (some ⟨B, 0, none⟩), .int .i64 (i : Nat)] w fun e w' => e = .returned (.pointer (some ⟨p, 0, none⟩)) ∧ w = w' := by
  have HS := Lib.hid (bsize_calls h)
  obtain ⟨a, c, hr⟩ := bds h
  have c3 := hr.c3
  obtain ⟨g, rfl, hc⟩ := hr.p i p hp
  have hlt := (List.getElem?_eq_some_iff.1 hp).1
  obtain ⟨N, hN⟩ : ∃ N, N = ps.length := ⟨_, rfl⟩
  rw [← hN] at c3 hlt
  rw [← hr.len, ← hN] at HS
  clear h hr hp hN
  have d1 : decide ((i : Int) < 0) = false := decide_eq_false (by omega)
  have d2 : decide ((N : Int) ≤ (i : Int)) = false := decide_eq_false (by omega)
  have i0 : (0 : Int) ≤ (i : Int) := by omega
  have i1 : (i : Int) < (N : Int) := by omega
  go_enter Tryz.func16, Tryz.ntmps16
  go_wp2_with fail
  refine HS.out.mono ?_
  rintro e w' ⟨rfl, rfl⟩
  go_wp2
  go_ret
  exact ⟨rfl, rfl⟩
theorem there_nil (i : Int) (w : World) : Calls Tryz.prog 69 #[.pointer none, .int .i64 i] w fun e w' => e = .returned (.int .i64 1) ∧ w = w' := by
  go_enter Tryz.func69, Tryz.ntmps69
  go_wp2
  go_ret
  exact ⟨rfl, rfl⟩
theorem there_no (h : Sp w0 (bay B ps n b :: L) w) (i : Int) (hi : ¬ (0 ≤ i ∧ i < b.M.length)) : Calls Tryz.prog 69 #[.pointer (some ⟨B, 0, none⟩), .int .i64 i] w fun e w' => e = .returned (.int .i64 11) ∧ w = w' := by
  have HM := Lib.hid (bmember_no h i hi)
  clear h hi
  go_enter Tryz.func69, Tryz.ntmps69
  go_wp2_with fail
  refine HM.out.mono ?_
  rintro e w' ⟨rfl, rfl⟩
  go_wp2
  go_ret
  exact ⟨rfl, rfl⟩
theorem there_yes (h : Sp w0 (bay B ps n b :: L) w) (i p : Nat) (hp : ps[i]? = some p) : Calls Tryz.prog 69 #[.pointer (some ⟨B, 0, none⟩), .int .i64 (i : Nat)] w fun e w' => e = .returned (.int .i64 0) ∧ w = w' := by
  have HM := Lib.hid (bmember_yes h i p hp)
  clear h hp
  go_enter Tryz.func69, Tryz.ntmps69
  go_wp2_with fail
  refine HM.out.mono ?_
  rintro e w' ⟨rfl, rfl⟩
  go_wp2
  go_ret
  exact ⟨rfl, rfl⟩
theorem steps_nil (w : World) : Calls Tryz.prog 33 #[.pointer none] w fun e w' => e = .returned (.int .i64 0) ∧ w = w' := by
  go_enter Tryz.func33, Tryz.ntmps33
  go_wp2
  go_ret
  exact ⟨rfl, rfl⟩
theorem steps_calls (h : Sp w0 (bay B ps n b :: L) w) : Calls Tryz.prog 33 #[.pointer (some ⟨B, 0, none⟩)] w fun e w' => e = .returned (.int .i64 b.steps) ∧ w = w' := by
  obtain ⟨a, c, hr⟩ := bds h
  have HL := Lib.hid (load_calls B 2 b.steps w hr.c2)
  clear h hr
  go_enter Tryz.func33, Tryz.ntmps33
  go_wp2_with fail
  refine HL.out.mono ?_
  rintro e w' ⟨rfl, rfl⟩
  go_wp2
  go_ret
  exact ⟨rfl, rfl⟩
theorem cut_nil (k : Int) (w : World) : Calls Tryz.prog 39 #[.pointer none, .int .i64 k] w fun e w' => e = .returned (.tuple #[]) ∧ w = w' := by
  go_enter Tryz.func39, Tryz.ntmps39
  go_wp2
  first | go_end0 | refine bodyPost_ret (results_none rfl _ _ _) rfl ?_
  exact ⟨rfl, rfl⟩
theorem cut_calls (h : Sp w0 (bay B ps n b :: L) w) (k : Int) : Calls Tryz.prog 39 #[.pointer (some ⟨B, 0, none⟩), .int .i64 k] w fun e w' => e = .returned (.tuple #[]) ∧ Sp w0 (bay B ps n (b.cut k) :: L) w' := by
  obtain ⟨a, c, hr⟩ := bds h
  have HA := Lib.hid (store_calls B 1 _ (max 0 k) w hr.c1 (hr.f 1))
  have h2 := bset (b' := { b with left := max 0 k }) h 1 (.int .i64 (max 0 k)) rfl (fun v => rfl)
  obtain ⟨a', c', hr'⟩ := bds h2
  have HB := Lib.hid (bstore_calls B 0 _ true _ hr'.c0 (hr'.f 0))
  have h3 := (bset (b' := b.cut k) h2 0 (.int .u32 (if true then 1 else 0)) rfl (fun v => rfl)).drew
  have HF := Lib.hid h3
  clear h h2 h3 hr hr'
  by_cases hk : 0 ≤ k
  · have e1 : max 0 k = k := by omega
    rw [e1] at HA HB HF
    go_enter Tryz.func39, Tryz.ntmps39
    go_wp2_with fail
    refine HA.out.mono ?_
    rintro e w' ⟨rfl, rfl⟩
    go_wp2_with fail
    refine HB.out.mono ?_
    rintro e w' ⟨rfl, rfl⟩
    go_wp2
    first | go_end0 | refine bodyPost_ret (results_none rfl _ _ _) rfl ?_
    exact ⟨rfl, HF.out⟩
  · have e1 : max 0 k = 0 := by omega
    rw [e1] at HA HB HF
    go_enter Tryz.func39, Tryz.ntmps39
    go_wp2_with fail
    refine HA.out.mono ?_
    rintro e w' ⟨rfl, rfl⟩
    go_wp2_with fail
    refine HB.out.mono ?_
    rintro e w' ⟨rfl, rfl⟩
    go_wp2
    first | go_end0 | refine bodyPost_ret (results_none rfl _ _ _) rfl ?_
    exact ⟨rfl, HF.out⟩
end
end Go.Proofs.YtbbhcmfkkkjehaaGreat.Bay
/- A bay's Write, Flush, Read walked. -/
namespace Go.Proofs.YtbbhcmfkkkjehaaGreat.Bay
open Go.RowKit Go.Proofs.YtbbhcmfkkkjehaaGreat.Mem Go.Proofs.YtbbhcmfkkkjehaaGreat.Sep Go.Proofs.YtbbhcmfkkkjehaaGreat.Member
open Go.Proofs.YtbbhcmfkkkjehaaGreatW.PrintWords hiding bt
set_option linter.unusedVariables false
set_option linter.unusedSimpArgs false

section
variable {w0 w : World} {B n : Nat} {ps : List Nat} {b : By} {L : List Asn}
theorem set_self {α : Type} {l : List α} {i : Nat} {a : α} (h : l[i]? = some a) : l.set i a = l := by
  obtain ⟨hi, rfl⟩ := List.getElem?_eq_some_iff.1 h
  exact List.set_getElem_self hi
theorem step_M (b : By) : b.step.M = b.M := by unfold By.step; split; split <;> rfl; rfl
theorem at_eq {b : By} {i : Nat} {m : Mb} (h : b.M[i]? = some m) : b.at i = m := by unfold By.at; rw [List.getD_eq_getElem?_getD, h]; rfl
theorem there_in {b : By} {i : Int} (h : b.thereE i = 0) : ∃ j : Nat, i = j ∧ j < b.M.length := by
  unfold By.thereE at h
  split at h
  · exact ⟨i.toNat, by omega, by omega⟩
  · omega
theorem there_out {b : By} {i : Int} (h : b.thereE i ≠ 0) : ¬ (0 ≤ i ∧ i < b.M.length) := by
  unfold By.thereE at h
  intro hc
  rw [if_pos hc] at h; exact h rfl
theorem bwrite_nil (i j : Int) (s : ByteArray) (w : World) : Calls Tryz.prog 25 #[.pointer none, .int .i64 i, .int .i64 j, .string s] w fun e w' => e = .returned (.int .i64 1) ∧ w = w' := by
  go_enter Tryz.func25, Tryz.ntmps25
  go_wp2_with fail
  refine (there_nil i w).mono ?_
  rintro e w' ⟨rfl, rfl⟩
  go_wp2
  go_ret
  exact ⟨rfl, rfl⟩
theorem bflush_nil (i : Int) (w : World) : Calls Tryz.prog 114 #[.pointer none, .int .i64 i] w fun e w' => e = .returned (.int .i64 1) ∧ w = w' := by
  go_enter Tryz.func114, Tryz.ntmps114
  go_wp2_with fail
  refine (there_nil i w).mono ?_
  rintro e w' ⟨rfl, rfl⟩
  go_wp2
  go_ret
  exact ⟨rfl, rfl⟩
theorem bread_nil (i j : Int) (w : World) : Calls Tryz.prog 98 #[.pointer none, .int .i64 i, .int .i64 j] w fun e w' => e = .returned (.tuple #[.string ⟨#[]⟩, .int .i64 1]) ∧ w = w' := by
  go_enter Tryz.func98, Tryz.ntmps98
  go_wp2_with fail
  refine (there_nil i w).mono ?_
  rintro e w' ⟨rfl, rfl⟩
  go_wp2
  go_ret2
  exact ⟨rfl, rfl⟩
set_option maxHeartbeats 4000000 in
theorem bwrite_calls (h : Sp w0 (bay B ps n b :: L) w) (hq : ∀ m ∈ b.M, m.q.length < 1000000) (i j : Int) (s : ByteArray) :
    Calls Tryz.prog 25 #[.pointer (some ⟨B, 0, none⟩), .int .i64 i, .int .i64 j, .string s] w fun e w' => e = .returned (.int .i64 (b.writeE i j s)) ∧ Sp w0 (bay B ps n (b.write i j s) :: L) w' := by
  by_cases ht : b.thereE i = 0
  · obtain ⟨i, rfl, hi⟩ := there_in ht
    obtain ⟨a, c, hr⟩ := bds h
    obtain ⟨p, hp⟩ : ∃ p, ps[i]? = some p := ⟨_, List.getElem?_eq_getElem (by rw [hr.len]; exact hi)⟩
    obtain ⟨m, hm⟩ : ∃ m, b.M[i]? = some m := ⟨_, List.getElem?_eq_getElem hi⟩
    have HT := Lib.hid (there_yes h i p hp)
    have HS := Lib.hid (step_calls h)
    have hE : b.writeE i j s = if b.stepE ≠ 0 then 21 else m.putE j s := by unfold By.writeE; rw [if_neg (by rw [ht]; simp), Int.toNat_natCast, at_eq hm]
    have hW : b.write i j s = if b.stepE ≠ 0 then b.step else b.step.on i (m.put j s) := by unfold By.write; rw [if_neg (by rw [ht]; simp), Int.toNat_natCast, at_eq hm]
    rw [hE, hW]
    have HP := Lib.hid (And.intro hp (And.intro hm (hq m (List.mem_of_getElem? hm))))
    clear hE hW ht hi hr hp hm hq h
    by_cases hs : b.stepE = 0
    · rw [if_neg (by rw [hs]; simp), if_neg (by rw [hs]; simp)]
      rw [hs] at HS
      clear hs
      go_enter Tryz.func25, Tryz.ntmps25
      go_wp2_with fail
      refine HT.out.mono ?_
      rintro e w' ⟨rfl, rfl⟩
      go_wp2_with fail
      refine HS.out.mono ?_
      rintro e w2 ⟨rfl, h2⟩
      obtain ⟨a, c, hr⟩ := bds h2
      have c3 := hr.c3
      obtain ⟨g, rfl, hc⟩ := hr.p i p HP.out.1
      have hlt := (List.getElem?_eq_some_iff.1 HP.out.1).1
      obtain ⟨N, hN⟩ : ∃ N, N = ps.length := ⟨_, rfl⟩
      rw [← hN] at c3 hlt
      have i0 : (0 : Int) ≤ (i : Int) := by omega
      have i1 : (i : Int) < (N : Int) := by omega
      obtain ⟨L', h3, hback⟩ := bay_member h2 HP.out.1 (by rw [step_M]; exact HP.out.2.1)
      have HZ := Lib.hid (And.intro (zwrite h3 HP.out.2.2 j s) hback)
      clear h2 h3 hback hr hN
      go_wp2_with fail
      refine HZ.out.1.mono ?_
      rintro e w3 ⟨rfl, h4⟩
      have H4 := Lib.hid (HZ.out.2 _ _ h4)
      clear h4
      go_wp2
      go_ret
      exact ⟨rfl, H4.out⟩
    · rw [if_pos hs, if_pos hs]
      have hs21 : b.stepE = 21 := by unfold By.stepE at hs ⊢; split at hs; rename_i hc; rw [if_pos hc]; exact absurd rfl hs
      rw [hs21] at HS
      clear hs hs21
      go_enter Tryz.func25, Tryz.ntmps25
      go_wp2_with fail
      refine HT.out.mono ?_
      rintro e w' ⟨rfl, rfl⟩
      go_wp2_with fail
      refine HS.out.mono ?_
      rintro e w2 ⟨rfl, h2⟩
      have H2 := Lib.hid h2
      clear h2
      go_wp2
      go_ret
      exact ⟨rfl, H2.out⟩
  · have HT := Lib.hid (there_no h i (there_out ht))
    have hE : b.writeE i j s = 11 := by unfold By.writeE; rw [if_pos ht]
    have hW : b.write i j s = b := by unfold By.write; rw [if_pos ht]
    rw [hE, hW]
    have H1 := Lib.hid h
    clear hE hW ht hq h
    go_enter Tryz.func25, Tryz.ntmps25
    go_wp2_with fail
    refine HT.out.mono ?_
    rintro e w' ⟨rfl, rfl⟩
    go_wp2
    go_ret
    exact ⟨rfl, H1.out⟩
set_option maxHeartbeats 4000000 in
theorem bflush_calls (h : Sp w0 (bay B ps n b :: L) w) (i : Int) :
    Calls Tryz.prog 114 #[.pointer (some ⟨B, 0, none⟩), .int .i64 i] w fun e w' => e = .returned (.int .i64 (b.flushE i)) ∧ Sp w0 (bay B ps n (b.flush i) :: L) w' := by
  by_cases ht : b.thereE i = 0
  · obtain ⟨i, rfl, hi⟩ := there_in ht
    obtain ⟨a, c, hr⟩ := bds h
    obtain ⟨p, hp⟩ : ∃ p, ps[i]? = some p := ⟨_, List.getElem?_eq_getElem (by rw [hr.len]; exact hi)⟩
    obtain ⟨m, hm⟩ : ∃ m, b.M[i]? = some m := ⟨_, List.getElem?_eq_getElem hi⟩
    have HT := Lib.hid (there_yes h i p hp)
    have HS := Lib.hid (step_calls h)
    have hE : b.flushE i = if b.stepE ≠ 0 then 21 else m.flushE := by unfold By.flushE; rw [if_neg (by rw [ht]; simp), Int.toNat_natCast, at_eq hm]
    have hW : b.flush i = if b.stepE ≠ 0 then b.step else b.step.on i m.flush := by unfold By.flush; rw [if_neg (by rw [ht]; simp), Int.toNat_natCast, at_eq hm]
    rw [hE, hW]
    have HP := Lib.hid (And.intro hp hm)
    clear hE hW ht hi hr hp hm h
    by_cases hs : b.stepE = 0
    · rw [if_neg (by rw [hs]; simp), if_neg (by rw [hs]; simp)]
      rw [hs] at HS
      clear hs
      go_enter Tryz.func114, Tryz.ntmps114
      go_wp2_with fail
      refine HT.out.mono ?_
      rintro e w' ⟨rfl, rfl⟩
      go_wp2_with fail
      refine HS.out.mono ?_
      rintro e w2 ⟨rfl, h2⟩
      obtain ⟨a, c, hr⟩ := bds h2
      have c3 := hr.c3
      obtain ⟨g, rfl, hc⟩ := hr.p i p HP.out.1
      have hlt := (List.getElem?_eq_some_iff.1 HP.out.1).1
      obtain ⟨N, hN⟩ : ∃ N, N = ps.length := ⟨_, rfl⟩
      rw [← hN] at c3 hlt
      have i0 : (0 : Int) ≤ (i : Int) := by omega
      have i1 : (i : Int) < (N : Int) := by omega
      obtain ⟨L', h3, hback⟩ := bay_member h2 HP.out.1 (by rw [step_M]; exact HP.out.2)
      have HZ := Lib.hid (And.intro (zflush h3) hback)
      clear h2 h3 hback hr hN
      go_wp2_with fail
      refine HZ.out.1.mono ?_
      rintro e w3 ⟨rfl, h4⟩
      have H4 := Lib.hid (HZ.out.2 _ _ h4)
      clear h4
      go_wp2
      go_ret
      exact ⟨rfl, H4.out⟩
    · rw [if_pos hs, if_pos hs]
      have hs21 : b.stepE = 21 := by unfold By.stepE at hs ⊢; split at hs; rename_i hc; rw [if_pos hc]; exact absurd rfl hs
      rw [hs21] at HS
      clear hs hs21
      go_enter Tryz.func114, Tryz.ntmps114
      go_wp2_with fail
      refine HT.out.mono ?_
      rintro e w' ⟨rfl, rfl⟩
      go_wp2_with fail
      refine HS.out.mono ?_
      rintro e w2 ⟨rfl, h2⟩
      have H2 := Lib.hid h2
      clear h2
      go_wp2
      go_ret
      exact ⟨rfl, H2.out⟩
  · have HT := Lib.hid (there_no h i (there_out ht))
    have hE : b.flushE i = 11 := by unfold By.flushE; rw [if_pos ht]
    have hW : b.flush i = b := by unfold By.flush; rw [if_pos ht]
    rw [hE, hW]
    have H1 := Lib.hid h
    clear hE hW ht h
    go_enter Tryz.func114, Tryz.ntmps114
    go_wp2_with fail
    refine HT.out.mono ?_
    rintro e w' ⟨rfl, rfl⟩
    go_wp2
    go_ret
    exact ⟨rfl, H1.out⟩
set_option maxHeartbeats 4000000 in
theorem bread_calls (h : Sp w0 (bay B ps n b :: L) w) (i j : Int) :
    Calls Tryz.prog 98 #[.pointer (some ⟨B, 0, none⟩), .int .i64 i, .int .i64 j] w fun e w' => e = .returned (.tuple #[.string (b.get i j), .int .i64 (b.readE i j)]) ∧ Sp w0 (bay B ps n b :: L) w' := by
  by_cases ht : b.thereE i = 0
  · obtain ⟨i, rfl, hi⟩ := there_in ht
    obtain ⟨a, c, hr⟩ := bds h
    obtain ⟨p, hp⟩ : ∃ p, ps[i]? = some p := ⟨_, List.getElem?_eq_getElem (by rw [hr.len]; exact hi)⟩
    obtain ⟨m, hm⟩ : ∃ m, b.M[i]? = some m := ⟨_, List.getElem?_eq_getElem hi⟩
    have HT := Lib.hid (there_yes h i p hp)
    have HS := Lib.hid (out_calls h)
    have hE : b.readE i j = if b.out then 21 else m.may j := by unfold By.readE; rw [if_neg (by rw [ht]; simp), Int.toNat_natCast, at_eq hm]
    have hW : b.get i j = if b.out = true then ⟨#[]⟩ else m.get j := by unfold By.get; rw [Int.toNat_natCast, at_eq hm]; simp [ht]
    rw [hE, hW]
    have c3 := hr.c3
    obtain ⟨g, rfl, hc⟩ := hr.p i p hp
    have hlt := (List.getElem?_eq_some_iff.1 hp).1
    obtain ⟨N, hN⟩ : ∃ N, N = ps.length := ⟨_, rfl⟩
    rw [← hN] at c3 hlt
    have i0 : (0 : Int) ≤ (i : Int) := by omega
    have i1 : (i : Int) < (N : Int) := by omega
    obtain ⟨L', h3, hback⟩ := bay_member h hp hm
    have hon : b.on i m = b := by
      unfold By.on
      rw [set_self hm]
    have hbk : ∀ w', Sp w0 (memz p n m :: (L' ++ L)) w' → Sp w0 (bay B ps n b :: L) w' := fun w' h5 => by have h6 := hback w' m h5; rw [hon] at h6; exact h6
    have HZ := Lib.hid (And.intro (zread h3 j) hbk)
    have H1 := Lib.hid h
    clear hE hW ht hi hr hp hm h h3 hback hN hon hbk
    obtain ⟨o, ho⟩ : ∃ o, o = b.out := ⟨_, rfl⟩
    rw [← ho] at HS ⊢
    clear ho
    cases o
    · go_enter Tryz.func98, Tryz.ntmps98
      go_wp2_with fail
      refine HT.out.mono ?_
      rintro e w' ⟨rfl, rfl⟩
      go_wp2_with fail
      refine HS.out.mono ?_
      rintro e w' ⟨rfl, rfl⟩
      go_wp2_with fail
      refine HZ.out.1.mono ?_
      rintro e w3 ⟨rfl, h4⟩
      have H4 := Lib.hid (HZ.out.2 _ h4)
      clear h4
      go_wp2
      go_ret2
      exact ⟨rfl, H4.out⟩
    · go_enter Tryz.func98, Tryz.ntmps98
      go_wp2_with fail
      refine HT.out.mono ?_
      rintro e w' ⟨rfl, rfl⟩
      go_wp2_with fail
      refine HS.out.mono ?_
      rintro e w' ⟨rfl, rfl⟩
      go_wp2
      go_ret2
      exact ⟨rfl, H1.out⟩
  · have HT := Lib.hid (there_no h i (there_out ht))
    have hE : b.readE i j = 11 := by unfold By.readE; rw [if_pos ht]
    have hW : b.get i j = ⟨#[]⟩ := by unfold By.get; rw [if_pos (.inl ht)]
    rw [hE, hW]
    have H1 := Lib.hid h
    clear hE hW ht h
    go_enter Tryz.func98, Tryz.ntmps98
    go_wp2_with fail
    refine HT.out.mono ?_
    rintro e w' ⟨rfl, rfl⟩
    go_wp2
    go_ret2
    exact ⟨rfl, H1.out⟩
end
end Go.Proofs.YtbbhcmfkkkjehaaGreat.Bay
