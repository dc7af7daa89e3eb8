/- A member whose counts nobody asks for; many of them behind one box. -/
import Derived.Test.YtahdhkhgokggbaaBy
namespace Go.Proofs.Ytahdhkhgokggbaa.Bay
open Go.RowKit Go.Proofs.Ytahdhkhgokggbaa.Mem Go.Proofs.Ytahdhkhgokggbaa.Sep Go.Proofs.Ytahdhkhgokggbaa.Member
set_option linter.unusedVariables false
set_option linter.unusedSimpArgs false

abbrev Cn := Int × Int × Int × Int
def cnt (m : Mb) (k : Cn) : Mb := { m with r := k.1, w := k.2.1, f := k.2.2.1, p := k.2.2.2 }
def memz (F n : Nat) (m : Mb) : Asn := ex fun k : Cn => member F n (cnt m k)
def rmemz (F n : Nat) (m : Mb) : Asn := ex fun k : Cn => rmem F n (cnt m k)
section
variable {w0 w : World} {F n : Nat} {m : Mb} {L : List Asn}
theorem memz_of (h : Sp w0 (member F n m :: L) w) : Sp w0 (memz F n m :: L) w := Sp.close (F := fun k : Cn => member F n (cnt m k)) (x := (m.r, m.w, m.f, m.p)) h
theorem rmemz_of (h : Sp w0 (rmem F n m :: L) w) : Sp w0 (rmemz F n m :: L) w := Sp.close (F := fun k : Cn => rmem F n (cnt m k)) (x := (m.r, m.w, m.f, m.p)) h
theorem memz_cnt {k : Cn} (h : Sp w0 (member F n (cnt m k) :: L) w) : Sp w0 (memz F n m :: L) w := Sp.close (F := fun k : Cn => member F n (cnt m k)) h
theorem rmemz_cnt {k : Cn} (h : Sp w0 (rmem F n (cnt m k) :: L) w) : Sp w0 (rmemz F n m :: L) w := Sp.close (F := fun k : Cn => rmem F n (cnt m k)) h
theorem memz_open (h : Sp w0 (memz F n m :: L) w) : ∃ k, Sp w0 (member F n (cnt m k) :: L) w := h.open
theorem rmemz_open (h : Sp w0 (rmemz F n m :: L) w) : ∃ k, Sp w0 (rmem F n (cnt m k) :: L) w := h.open
theorem memz_ok (h : Sp w0 (memz F n m :: L) w) : m.ok n := by
  obtain ⟨k, h⟩ := memz_open h
  have := mbOk h
  exact ⟨this.las, this.now, this.q⟩
theorem cnt_put (k : Cn) (i : Int) (s : ByteArray) : ∃ k', (cnt m k).put i s = cnt (m.put i s) k' := by
  unfold Mb.put
  have e : (cnt m k).putE i s = m.putE i s := rfl
  rw [e]
  split
  · exact ⟨(k.1, wrap64 (k.2.1 + 1), k.2.2.1, k.2.2.2), rfl⟩
  · exact ⟨k, rfl⟩
theorem cnt_read (k : Cn) (i : Int) : ∃ k', (cnt m k).read i = cnt m k' := by
  unfold Mb.read
  split
  · exact ⟨(wrap64 (k.1 + 1), k.2.1, k.2.2.1, k.2.2.2), rfl⟩
  · exact ⟨k, rfl⟩
theorem cnt_flush (k : Cn) : ∃ k', (cnt m k).flush = cnt m.flush k' := by
  unfold Mb.flush
  have e : (cnt m k).dead = m.dead := rfl
  rw [e]
  cases m.dead
  · exact ⟨(k.1, k.2.1, wrap64 (k.2.2.1 + 1), k.2.2.2), rfl⟩
  · exact ⟨k, rfl⟩
theorem cnt_crash (k : Cn) (K : List Nat) : (cnt m k).crash K = cnt (m.crash K) k := by
  unfold Mb.crash
  have e : (cnt m k).dead = m.dead := rfl
  rw [e]
  cases m.dead <;> rfl
theorem cnt_fail (k : Cn) : (cnt m k).fail = cnt m.fail k := rfl
theorem cnt_replace (k : Cn) : ∃ k', (cnt m k).replace = cnt m.replace k' := ⟨(k.1, k.2.1, k.2.2.1, wrap64 (k.2.2.2 + 1)), rfl⟩
theorem cnt_rot (k : Cn) (i : Int) (s : ByteArray) : (cnt m k).rot i s = cnt (m.rot i s) k := by
  unfold Mb.rot
  have e : (cnt m k).rotB i s = m.rotB i s := rfl
  rw [e]
  cases m.rotB i s <;> rfl
end
/-- Many. -/
def mems (n : Nat) (ps : List Nat) (M : List Mb) : List Asn := List.zipWith (fun p m => memz p n m) ps M
def rmems (n : Nat) (ps : List Nat) (M : List Mb) : List Asn := List.zipWith (fun p m => rmemz p n m) ps M
def ptrs (ps : List Nat) : List Value := ps.map fun p => .pointer (some ⟨p, 0, none⟩)
theorem zip_at {α β γ : Type} {f : α → β → γ} {l : List α} {M : List β} {i : Nat} {a : α} {b : β} (h1 : l[i]? = some a) (h2 : M[i]? = some b) : (List.zipWith f l M)[i]? = some (f a b) := by
  rw [List.getElem?_zipWith, h1, h2]
theorem zip_set {α β γ : Type} {f : α → β → γ} {a : α} {b : β} : ∀ {l : List α} {M : List β} {i : Nat}, l[i]? = some a → (List.zipWith f l M).set i (f a b) = List.zipWith f l (M.set i b)
  | [], _, _, h => by simp at h
  | _ :: _, [], _, _ => by simp
  | x :: l, y :: M, 0, h => by
    obtain rfl : x = a := by simpa using h
    rfl
  | x :: l, y :: M, i + 1, h => by
    simp only [List.zipWith_cons_cons, List.set_cons_succ]
    rw [zip_set (l := l) (M := M) (i := i) (by simpa using h)]
theorem erase_insert {α : Type} {A : α} : ∀ {L : List α} {i : Nat}, i < L.length → (L.eraseIdx i).insertIdx i A = L.set i A
  | a :: L, 0, _ => rfl
  | a :: L, i + 1, h => by
    simp only [List.eraseIdx_cons_succ, List.insertIdx_succ_cons, List.set_cons_succ]
    rw [erase_insert (by simpa using h)]
def bbox (b : By) (v : Value) : Array Value := #[.int .u32 (if b.set then 1 else 0), .int .i64 b.left, .int .i64 b.steps, v]
def bparts (B : Nat) (ps : List Nat) (n : Nat) (b : By) (v : Value) : List Asn :=
  blk B (bbox b v) 162 :: row 42 1 v ps.length (ptrs ps) :: mems n ps b.M
/-- A bay of members of n sectors at ps. -/
def bay (B : Nat) (ps : List Nat) (n : Nat) (b : By) : Asn := fact (ps.length = b.M.length) (ex fun v : Value => stars (bparts B ps n b v))
def rbbox (b : By) (v : Value) : Array Value := #[v, .int .i64 b.steps, .int .i64 b.rest]
def rbparts (B : Nat) (ps : List Nat) (n : Nat) (b : By) (v : Value) : List Asn :=
  blk B (rbbox b v) 111 :: row 75 1 v ps.length (ptrs ps) :: rmems n ps b.M
/-- The document's. -/
def rbay (B : Nat) (ps : List Nat) (n : Nat) (b : By) : Asn := fact (ps.length = b.M.length) (ex fun v : Value => stars (rbparts B ps n b v))
section
variable {w0 w : World} {B n : Nat} {ps : List Nat} {b : By} {L : List Asn}
theorem bayOpen (h : Sp w0 (bay B ps n b :: L) w) : ps.length = b.M.length ∧ ∃ v, Sp w0 (blk B (bbox b v) 162 :: row 42 1 v ps.length (ptrs ps) :: (mems n ps b.M ++ L)) w := by
  obtain ⟨ho, h⟩ := h.fact
  obtain ⟨v, h⟩ := h.open
  exact ⟨ho, v, h.unpack⟩
theorem bayClose {v : Value} (ho : ps.length = b.M.length) (h : Sp w0 (blk B (bbox b v) 162 :: row 42 1 v ps.length (ptrs ps) :: (mems n ps b.M ++ L)) w) : Sp w0 (bay B ps n b :: L) w :=
  Sp.mkfact ho (Sp.close (F := fun v : Value => stars (bparts B ps n b v)) (x := v) (Sp.pack (M := bparts B ps n b v) h))
theorem rbayOpen (h : Sp w0 (rbay B ps n b :: L) w) : ps.length = b.M.length ∧ ∃ v, Sp w0 (blk B (rbbox b v) 111 :: row 75 1 v ps.length (ptrs ps) :: (rmems n ps b.M ++ L)) w := by
  obtain ⟨ho, h⟩ := h.fact
  obtain ⟨v, h⟩ := h.open
  exact ⟨ho, v, h.unpack⟩
theorem rbayClose {v : Value} (ho : ps.length = b.M.length) (h : Sp w0 (blk B (rbbox b v) 111 :: row 75 1 v ps.length (ptrs ps) :: (rmems n ps b.M ++ L)) w) : Sp w0 (rbay B ps n b :: L) w :=
  Sp.mkfact ho (Sp.close (F := fun v : Value => stars (rbparts B ps n b v)) (x := v) (Sp.pack (M := rbparts B ps n b v) h))
theorem By.on_length (b : By) (i : Nat) (m : Mb) : (b.on i m).M.length = b.M.length := by simp [By.on]
/-- One of them taken out, and put back. -/
theorem mems_member {A C : Asn} {M : List Mb} {i p : Nat} {m : Mb} (h1 : Sp w0 (A :: C :: (mems n ps M ++ L)) w) (hp : ps[i]? = some p) (hm : M[i]? = some m) :
    ∃ X, Sp w0 (memz p n m :: (X ++ L)) w ∧ ∀ w' m', Sp w0 (memz p n m' :: (X ++ L)) w' → Sp w0 (A :: C :: (mems n ps (M.set i m') ++ L)) w' := by
  have hl := (List.getElem?_eq_some_iff.1 hp).1
  have hl2 := (List.getElem?_eq_some_iff.1 hm).1
  have hlm : i < (mems n ps M).length := by unfold mems; rw [List.length_zipWith]; omega
  have hi : (A :: C :: (mems n ps M ++ L))[i + 2]? = some (memz p n m) := by
    rw [List.getElem?_cons_succ, List.getElem?_cons_succ, List.getElem?_append_left hlm]
    exact zip_at hp hm
  have hX : (A :: C :: (mems n ps M ++ L)).eraseIdx (i + 2) = (A :: C :: (mems n ps M).eraseIdx i) ++ L := by
    rw [List.eraseIdx_cons_succ, List.eraseIdx_cons_succ, List.eraseIdx_append_of_lt_length hlm]; rfl
  have h4 := h1.front (i + 2) hi
  rw [hX] at h4
  refine ⟨_, h4, fun w' m' h2 => ?_⟩
  rw [← hX] at h2
  have h3 := h2.back (i + 2)
  rw [erase_insert (List.getElem?_eq_some_iff.1 hi).1] at h3
  rw [List.set_cons_succ, List.set_cons_succ, List.set_append_left _ _ hlm] at h3
  have e : (mems n ps M).set i (memz p n m') = mems n ps (M.set i m') := by
    unfold mems
    exact zip_set (f := fun p m => memz p n m) hp
  rw [e] at h3
  exact h3
theorem rmems_member {A C : Asn} {M : List Mb} {i p : Nat} {m : Mb} (h1 : Sp w0 (A :: C :: (rmems n ps M ++ L)) w) (hp : ps[i]? = some p) (hm : M[i]? = some m) :
    ∃ X, Sp w0 (rmemz p n m :: (X ++ L)) w ∧ ∀ w' m', Sp w0 (rmemz p n m' :: (X ++ L)) w' → Sp w0 (A :: C :: (rmems n ps (M.set i m') ++ L)) w' := by
  have hl := (List.getElem?_eq_some_iff.1 hp).1
  have hl2 := (List.getElem?_eq_some_iff.1 hm).1
  have hlm : i < (rmems n ps M).length := by unfold rmems; rw [List.length_zipWith]; omega
  have hi : (A :: C :: (rmems n ps M ++ L))[i + 2]? = some (rmemz p n m) := by
    rw [List.getElem?_cons_succ, List.getElem?_cons_succ, List.getElem?_append_left hlm]
    exact zip_at hp hm
  have hX : (A :: C :: (rmems n ps M ++ L)).eraseIdx (i + 2) = (A :: C :: (rmems n ps M).eraseIdx i) ++ L := by
    rw [List.eraseIdx_cons_succ, List.eraseIdx_cons_succ, List.eraseIdx_append_of_lt_length hlm]; rfl
  have h4 := h1.front (i + 2) hi
  rw [hX] at h4
  refine ⟨_, h4, fun w' m' h2 => ?_⟩
  rw [← hX] at h2
  have h3 := h2.back (i + 2)
  rw [erase_insert (List.getElem?_eq_some_iff.1 hi).1] at h3
  rw [List.set_cons_succ, List.set_cons_succ, List.set_append_left _ _ hlm] at h3
  have e : (rmems n ps M).set i (rmemz p n m') = rmems n ps (M.set i m') := by
    unfold rmems
    exact zip_set (f := fun p m => rmemz p n m) hp
  rw [e] at h3
  exact h3
theorem bay_member {i p : Nat} {m : Mb} (h : Sp w0 (bay B ps n b :: L) w) (hp : ps[i]? = some p) (hm : b.M[i]? = some m) :
    ∃ X, Sp w0 (memz p n m :: (X ++ L)) w ∧ ∀ w' m', Sp w0 (memz p n m' :: (X ++ L)) w' → Sp w0 (bay B ps n (b.on i m') :: L) w' := by
  obtain ⟨ho, v, h1⟩ := bayOpen h
  obtain ⟨X, h2, h3⟩ := mems_member h1 hp hm
  exact ⟨X, h2, fun w' m' h4 => bayClose (b := b.on i m') (v := v) (by rw [By.on_length]; exact ho) (h3 w' m' h4)⟩
theorem rbay_member {i p : Nat} {m : Mb} (h : Sp w0 (rbay B ps n b :: L) w) (hp : ps[i]? = some p) (hm : b.M[i]? = some m) :
    ∃ X, Sp w0 (rmemz p n m :: (X ++ L)) w ∧ ∀ w' m', Sp w0 (rmemz p n m' :: (X ++ L)) w' → Sp w0 (rbay B ps n (b.on i m') :: L) w' := by
  obtain ⟨ho, v, h1⟩ := rbayOpen h
  obtain ⟨X, h2, h3⟩ := rmems_member h1 hp hm
  exact ⟨X, h2, fun w' m' h4 => rbayClose (b := b.on i m') (v := v) (by rw [By.on_length]; exact ho) (h3 w' m' h4)⟩
end
end Go.Proofs.Ytahdhkhgokggbaa.Bay
