/- Plain facts on arguments: what the cells of a value of a given shape are, and how much they are at most. No program is named here. -/
import Derived.WalkKit
import Derived.ProofKit
import Derived.OpenShut
import Derived.ChangeArms
import Derived.DataReads
import Derived.SizedLaws
namespace Go.Proofs.YtbbhcmfkkkjehaaGreat.Opn
open Go.ChangeShapes
set_option linter.unusedVariables false
set_option linter.unusedSimpArgs false

/-- The shape of a type: numbers, bools, strings, slices of elements of n cells and b bytes; structs and arrays as chains of fields of n cells. -/
inductive Sh where
  | int (k : IntKind)
  | bool
  | str
  | slice (n b : Nat) (e : Sh)
  | nil
  | cons (n : Nat) (h t : Sh)

/-- Cells that read as a value of this shape. -/
def Rd (w : World) : Sh → List Value → Prop
  | .int k, cs => ∃ n, cs = [.int k n] ∧ (Lit.int k n).wf = true
  | .bool, cs => ∃ b, cs = [.bool b]
  | .str, cs => ∃ s : ByteArray, cs = [.string s] ∧ s.size ≤ 140737488351232
  | .slice n b e, cs => cs = [.slice none 0 0] ∨ ∃ a len cap, cs = [.slice (some a) len cap] ∧ len ≤ cap ∧ cap ≤ maxLen ∧ cap * b ≤ 140737488351232 ∧
      ∀ i, i < cap → ∃ cs' : List Value, cs'.length = n ∧ (∀ j, j < n → w.cell? (a.add (i * n + j)) = cs'[j]?) ∧ Rd w e cs'
  | .nil, cs => cs = []
  | .cons n h t, cs => Rd w h (cs.take n) ∧ Rd w t (cs.drop n)

theorem add_add (a : Addr) (i j : Nat) : (a.add i).add j = a.add (i + j) := by
  unfold Addr.add
  by_cases h : i = 0
  · subst h; simp
  · by_cases h2 : j = 0
    · subst h2; simp [h]
    · simp [h, h2]; omega

section
variable {H : Type} {enc : TypeId × Value → H} {P : Program} {w : World}
def Fits (P : Program) (t : TypeId) (d : DataW H) : Prop := ∀ m ∈ d.weights P t, m ≤ reachBytes
theorem fits_all {e : TypeId} : ∀ {ds : List (DataW H)}, (∀ m ∈ DataW.weightsAll P e ds, m ≤ reachBytes) → ∀ d ∈ ds, Fits P e d
  | [], _, d, hd => by simp at hd
  | x :: r, h, d, hd => by
    rw [DataW.weightsAll] at h
    rcases List.mem_cons.1 hd with rfl | hd
    · exact fun m hm => h m (List.mem_append.2 (.inl hm))
    · exact fits_all (fun m hm => h m (List.mem_append.2 (.inr hm))) d hd
theorem fits_each : ∀ {ts : List TypeId} {ds : List (DataW H)}, (∀ m ∈ DataW.weightsEach P ts ds, m ≤ reachBytes) → ∀ (i : Nat) t d, ts[i]? = some t → ds[i]? = some d → Fits P t d
  | [], _, _, i, t, d, ht, _ => by simp at ht
  | _ :: _, [], _, i, t, d, _, hd => by simp at hd
  | t0 :: ts, d0 :: ds, h, i, t, d, ht, hd => by
    rw [DataW.weightsEach] at h
    cases i with
    | zero =>
      simp at ht hd
      subst ht; subst hd
      exact fun m hm => h m (List.mem_append.2 (.inl hm))
    | succ i => exact fits_each (fun m hm => h m (List.mem_append.2 (.inr hm))) i t d (by simpa using ht) (by simpa using hd)
theorem fits_at {ts : List TypeId} {ds : List (DataW H)} (h : (DataW.weightsEach P ts ds).all (· ≤ reachBytes) = true) {i : Nat} {t : TypeId} {d : DataW H} (ht : ts[i]? = some t) (hd : ds[i]? = some d) : Fits P t d :=
  fits_each (fun m hm => by simpa using List.all_eq_true.1 h m hm) i t d ht hd

def Opens (enc : TypeId × Value → H) (P : Program) (w : World) (t : TypeId) (s : Sh) : Prop :=
  ∀ (fuel : Nat) (cs : List Value) (x : DataW H × List MemPlace), DataW.trod enc P w 0 (fun _ => true) true fuel t cs = some x → Fits P t x.1 → Rd w s cs
def OpensFs (enc : TypeId × Value → H) (P : Program) (w : World) (off : Nat) (fs : List Field) (s : Sh) : Prop :=
  ∀ (cs : List Value), (∀ f ∈ fs, ∃ fuel x, DataW.trod enc P w 0 (fun _ => true) true fuel f.type ((cs.drop f.offset).take (P.cellsOf f.type)) = some x ∧ Fits P f.type x.1) → (fs = [] → cs.length ≤ off) →
    (∀ f, fs.getLast? = some f → cs.length ≤ f.offset + P.cellsOf f.type) → Rd w s (cs.drop off)

theorem opens_int {t : TypeId} {k : IntKind} (ht : P.underlying t = some (.int k)) : Opens enc P w t (.int k) := fun _ _ _ h _ => by
  obtain ⟨n, h1, _, h2⟩ := DataW.trod_int ht h; exact ⟨n, h1, h2⟩
theorem opens_bool {t : TypeId} (ht : P.underlying t = some .bool) : Opens enc P w t .bool := fun _ _ _ h _ => by
  obtain ⟨n, h1, _⟩ := DataW.trod_bool ht h; exact ⟨n, h1⟩
theorem opens_str {t : TypeId} (ht : P.underlying t = some .string) : Opens enc P w t .str := fun _ _ x h hf => by
  obtain ⟨s, h1, hx, h2⟩ := DataW.trod_string ht h
  subst hx
  have := hf s.data.toList.length (by rw [DataW.weights]; simp)
  refine ⟨s, h1, ?_⟩
  unfold reachBytes at this
  simp at this
  exact this
theorem opens_slice {t e : TypeId} {n b : Nat} {s : Sh} (ht : P.underlying t = some (.slice e)) (hn : P.cellsOf e = n) (hbe : P.bytesOf e = b) (he : Opens enc P w e s) : Opens enc P w t (.slice n b s) := fun _ cs x h hf => by
  rcases DataW.trod_slice ht h with ⟨h0, _⟩ | ⟨a, len, cap, elems, rest, m, _, hc, hx, hb, hl, hm, hlen, hel, hsp, _⟩
  · exact .inl h0
  obtain ⟨h3, h4⟩ := hsp rfl
  subst hx
  have hw : ∀ q ∈ ((elems.map (·.1)).length + (rest.map (·.1)).length) * P.bytesOf e :: (DataW.weightsAll P e (elems.map (·.1)) ++ DataW.weightsAll P e (rest.map (·.1))), q ≤ reachBytes := fun q hq => hf q (by rw [DataW.weights, ht]; exact hq)
  have hcapb : cap * b ≤ 140737488351232 := by
    have := hw _ (List.mem_cons_self)
    simp only [List.length_map] at this
    rw [hlen, h3, hbe, show len + (cap - len) = cap by omega] at this
    unfold reachBytes at this
    exact this
  refine .inr ⟨a, len, cap, hc, hl, hm, hcapb, fun i hi => ?_⟩
  have key : ∃ y, (w.cells? 0 (a.add (i * P.cellsOf e)) (P.cellsOf e)).bind (DataW.trod enc P w 0 (fun _ => true) true m e) = some y ∧ Fits P e y.1 := by
    by_cases h2 : i < len
    · rw [hel i h2, List.getElem?_eq_getElem (by omega)]
      refine ⟨_, rfl, fits_all (fun q hq => hw q ?_) _ (List.mem_map.2 ⟨_, List.getElem_mem (by omega), rfl⟩)⟩
      exact List.mem_cons.2 (.inr (List.mem_append.2 (.inl hq)))
    · have h5 := h4 (i - len) (by omega)
      rw [show len + (i - len) = i by omega] at h5
      rw [h5, List.getElem?_eq_getElem (by omega)]
      refine ⟨_, rfl, fits_all (fun q hq => hw q ?_) _ (List.mem_map.2 ⟨_, List.getElem_mem (by omega), rfl⟩)⟩
      exact List.mem_cons.2 (.inr (List.mem_append.2 (.inr hq)))
  obtain ⟨y, hy, hfy⟩ := key
  obtain ⟨cs', h1, h2⟩ := Option.bind_eq_some_iff.1 hy
  obtain ⟨_, h3, h4⟩ := World.cells?_some h1
  rw [hn] at h3 h4
  exact ⟨cs', h3, fun j hj => by rw [← h4 j hj, add_add], he _ _ _ h2 hfy⟩
theorem opensFs_nil {off : Nat} : OpensFs enc P w off [] .nil := fun _ _ h _ => List.drop_eq_nil_of_le (h rfl)
theorem opensFs_cons {off n : Nat} {f : Field} {fs : List Field} {h t : Sh} (ho : f.offset = off) (hn : P.cellsOf f.type = n) (hf : Opens enc P w f.type h) (hs : OpensFs enc P w (off + n) fs t) :
    OpensFs enc P w off (f :: fs) (.cons n h t) := fun cs hc _ hl => by
  obtain ⟨fuel, x, hx, hfx⟩ := hc f (by simp)
  rw [ho, hn] at hx
  refine ⟨hf _ _ _ hx hfx, ?_⟩
  rw [List.drop_drop]
  refine hs cs (fun g hg => hc g (by simp [hg])) (fun h0 => ?_) (fun g hg => ?_)
  · subst h0
    have := hl f rfl
    omega
  · cases fs with
    | nil => simp at hg
    | cons b r => exact hl g (by rw [List.getLast?_cons_cons]; exact hg)
theorem opens_struct {t : TypeId} {fs : Array Field} {s : Sh} (ht : P.underlying t = some (.struct fs)) (hq : (fs.toList.getLast?.map fun f => f.offset + P.cellsOf f.type).getD 0 = P.cellsOf t)
    (hs : OpensFs enc P w 0 fs.toList s) : Opens enc P w t s := fun _ cs x h hfx => by
  have hc : ∀ f, fs.toList.getLast? = some f → P.cellsOf t = f.offset + P.cellsOf f.type := fun f hf => by rw [← hq, hf]; rfl
  have h0 : fs.toList = [] → P.cellsOf t = 0 := fun e => by rw [← hq, e]; rfl
  obtain ⟨xs, n, _, hxe, hl, hlen, hx⟩ := DataW.trod_struct ht h
  subst hxe
  have hw : ∀ q ∈ DataW.weightsEach P (fs.toList.map (·.type)) (xs.map (·.1)), q ≤ reachBytes := fun q hq => hfx q (by rw [DataW.weights, ht]; exact hq)
  have := hs cs (fun f hf => ?_) (fun h1 => by rw [hl, h0 h1]; exact Nat.le_refl _) (fun f hf => by rw [hl, hc f hf]; exact Nat.le_refl _)
  · simpa using this
  · obtain ⟨i, hi⟩ := List.getElem?_of_mem hf
    have hi1 := hi
    rw [Array.getElem?_toList] at hi
    have hi2 := (Array.getElem?_eq_some_iff.1 hi).1
    have h3 := hx i f hi
    rw [List.getElem?_eq_getElem (by omega)] at h3
    exact ⟨n, _, h3, fits_each hw i f.type _ (by rw [List.getElem?_map, hi1]; rfl) (by rw [List.getElem?_map, List.getElem?_eq_getElem (by omega)]; rfl)⟩
def arr (m : Nat) (e : Sh) : Nat → Sh
  | 0 => .nil
  | k + 1 => .cons m e (arr m e k)
theorem opens_array {t e : TypeId} {n m : Nat} {s : Sh} (ht : P.underlying t = some (.array n e)) (hm : P.cellsOf e = m) (hc : P.cellsOf t = n * m) (hs : Opens enc P w e s) : Opens enc P w t (arr m s n) := fun _ cs x h hfx => by
  obtain ⟨xs, q, _, hxe, hl, hlen, hx⟩ := DataW.trod_array ht h
  subst hxe
  have hw : ∀ q ∈ DataW.weightsAll P e (xs.map (·.1)), q ≤ reachBytes := fun q hq => hfx q (by rw [DataW.weights, ht]; exact hq)
  have key : ∀ (k i : Nat), i + k = n → Rd w (arr m s k) (cs.drop (i * m)) := by
    intro k
    induction k with
    | zero =>
      intro i hi
      have : i = n := by omega
      subst this
      exact List.drop_eq_nil_of_le (by omega)
    | succ k ih =>
      intro i hi
      have h3 := hx i (by omega)
      rw [List.getElem?_eq_getElem (by omega), hm] at h3
      refine ⟨hs _ _ _ h3 (fits_all hw _ (List.mem_map.2 ⟨_, List.getElem_mem (by omega), rfl⟩)), ?_⟩
      rw [List.drop_drop]
      have := ih (i + 1) (by omega)
      rw [Nat.succ_mul] at this
      exact this
  have := key n 0 (by omega)
  simpa using this
end

theorem okWide_array {P : Program} {w : World} {r : Reach} {base : Nat} {t e : TypeId} {n : Nat} {v : Value} (ht : P.underlying t = some (.array n e)) (h : Value.okWide P w r base t v) : ∃ cs : Array Value, v = .agg cs ∧ cs.size = P.cellsOf t := by
  simp only [Value.okWide, ht] at h
  obtain ⟨cs, h1, h2, _⟩ := h
  exact ⟨cs, h1, h2⟩
/-- It reads so as well where all that was there has stayed. -/
theorem Rd.kept {w w' : World} (hk : ∀ a v, w.cell? a = some v → w'.cell? a = some v) : ∀ (s : Sh) (cs : List Value), Rd w s cs → Rd w' s cs
  | .int _, _, h => h
  | .bool, _, h => h
  | .str, _, h => h
  | .nil, _, h => h
  | .cons n a b, cs, h => ⟨Rd.kept hk a _ h.1, Rd.kept hk b _ h.2⟩
  | .slice n b e, cs, h => by
    rcases h with h | ⟨a, len, cap, h1, h2, h3, hb, h4⟩
    · exact .inl h
    · refine .inr ⟨a, len, cap, h1, h2, h3, hb, fun i hi => ?_⟩
      obtain ⟨cs', h5, h6, h7⟩ := h4 i hi
      refine ⟨cs', h5, fun j hj => ?_, Rd.kept hk e _ h7⟩
      have h8 := h6 j hj
      rw [List.getElem?_eq_getElem (by omega)] at h8 ⊢
      exact hk _ _ h8
end Go.Proofs.YtbbhcmfkkkjehaaGreat.Opn
