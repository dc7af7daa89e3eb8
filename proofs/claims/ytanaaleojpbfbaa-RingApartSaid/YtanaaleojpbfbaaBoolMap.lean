/- Maps to bools that a call has made: what is at each key; the laws of a look-up and of a store. No program is named here. -/
import Derived.Test.YtanaaleojpbfbaaSep
import Derived.Maps.OwnSet
import Derived.StringKeys
namespace Go.Proofs.Ytanaaleojpbfbaa.Sep
open Go.RowKit Go.Proofs.Ytanaaleojpbfbaa.Mem
open Go.Maps (Keyed IsMap)
set_option linter.unusedVariables false
set_option linter.unusedSimpArgs false

/-- One more. -/
noncomputable def upd (p : Lit → Bool) (kl : Lit) (x : Bool) : Lit → Bool := fun l => @ite _ (l = kl) (Classical.propDecidable _) x (p l)
theorem upd_same (p : Lit → Bool) (kl : Lit) (x : Bool) : upd p kl x kl = x := if_pos rfl
theorem upd_other {p : Lit → Bool} {l kl : Lit} (h : l ≠ kl) (x : Bool) : upd p kl x l = p l := if_neg h
/-- Block b is a map of at most n entries, true where p says. -/
def BMap (P : Program) (k e : TypeId) (w : World) (b n : Nat) (p : Lit → Bool) : Prop :=
  ∃ D : DataW Unit, w.ownsMap P k (plainElem P e) b n D ∧ IsMap D ∧ ∀ kl, WideAt.IsKeyLit kl → D.atKey kl (.lit (.bool false)) = .lit (.bool (p kl))
section
variable {P : Program} {k e : TypeId} {w w' : World} {b n : Nat} {p : Lit → Bool}
theorem BMap.made (w : World) (P : Program) (k e : TypeId) : BMap P k e (w.alloc (.map #[] 0)) w.heap.size 0 fun _ => false :=
  ⟨.map [], World.ownsMap_made w P k _, ⟨[], rfl⟩, fun kl _ => rfl⟩
theorem BMap.lt (h : BMap P k e w b n p) : b < w.heap.size := by obtain ⟨D, h, _⟩ := h; exact h.lt
theorem BMap.same (h : BMap P k e w b n p) (hs : w'.heap[b]? = w.heap[b]?) : BMap P k e w' b n p := by
  obtain ⟨D, ⟨es, clock, h1, h2, h3, h4⟩, hm, hp⟩ := h
  exact ⟨D, ⟨es, clock, hs.trans h1, h2, h3, h4⟩, hm, hp⟩
theorem plainElem_bool_inv {H : Type} (he : P.underlying e = some .bool) {v : Value} {z : DataW H × List MemPlace} (h : plainElem P e v = some z) : ∃ x, v = .bool x ∧ z = (.lit (.bool x), []) := by
  unfold plainElem at h
  rw [he] at h
  cases v <;> simp at h
  exact ⟨_, rfl, h.symm⟩
theorem BMap.look {t : TypeId} (h : BMap P k e w b n p) (K : Keyed P k) (ht : P.underlying t = some (.map k e)) (he : P.underlying e = some .bool) (hz : (zeroValue e).run P w = .ok (.bool false) w) {key : Value} {kl : Lit} (hkey : keyOf P k key = some kl) :
    (Instr.lookup t (.map (some b)) key false).run P w = .ok (.bool (p kl)) w := by
  obtain ⟨D, h, hm, hp⟩ := h
  obtain ⟨v, ps, hrun, hv⟩ := h.lookup K ht hz (plainElem_bool he false) hkey
  obtain ⟨x, rfl, hx⟩ := plainElem_bool_inv he hv
  have := hp kl (K.key hkey)
  simp only [Prod.mk.injEq] at hx
  rw [hx.1] at this
  obtain rfl : x = p kl := by simpa using this
  exact hrun
theorem BMap.put {t : TypeId} (h : BMap P k e w b n p) (K : Keyed P k) (ht : P.underlying t = some (.map k e)) (he : P.underlying e = some .bool) (hn : n < maxLen) {key : Value} {kl : Lit} (hkey : keyOf P k key = some kl) (x : Bool) :
    ∃ w', (Instr.mapUpdate t (.map (some b)) key (.bool x)).run P w = .ok () w' ∧ BMap P k e w' b (n + 1) (upd p kl x) ∧ w.grownBy w' (some b) := by
  obtain ⟨D, h, hm, hp⟩ := h
  obtain ⟨w', hrun, h', hg⟩ := h.update K ht hn hkey (plainElem_bool he x)
  refine ⟨w', hrun, ⟨_, h', hm.put _ _, fun l hl => ?_⟩, hg⟩
  by_cases hlk : l = kl
  · subst hlk
    rw [upd_same, Maps.atKey_put_same hm hl]
  · rw [upd_other hlk, Maps.atKey_put_other hlk]; exact hp l hl
theorem BMap.mono {m : Nat} (h : BMap P k e w b n p) (hn : n ≤ m) : BMap P k e w b m p := by
  obtain ⟨D, h, hm, hp⟩ := h
  exact ⟨D, h.mono hn, hm, hp⟩
end
/-- 'm[k] = x' at the operation. -/
theorem wpList_mapUpdate_bool {P : Program} (w : World) {ops : Array Oper} {rest : List Oper} {o : Oper} {a : Act} {Q : Exit → Act → World → Prop}
    (hg : o.guard = none) (m x v : Operand) (t : TypeId) (hop : o.op = Op.mapUpdate t m x v)
    (k e : TypeId) (K : Keyed P k) (ht : P.underlying t = some (.map k e)) (he : P.underlying e = some .bool) (b n : Nat) (p : Lit → Bool)
    (hm : a.eval m = .map (some b)) (hown : BMap P k e w b n p) (hn : n < maxLen) (key : Value) (u : Bool) (kl : Lit) (hx : a.eval x = key) (hv : a.eval v = .bool u) (hkey : keyOf P k key = some kl)
    (hK : ∀ w', BMap P k e w' b (n + 1) (upd p kl u) → w.grownBy w' (some b) → wpList P ops Q rest (a.put o.dst undef) w') :
    wpList P ops Q (o :: rest) a w := by
  refine wpList_plain hg fun K' hK' => ?_
  obtain ⟨w', hrun, r1, r2⟩ := hown.put K ht he hn hkey u
  unfold Oper.wp
  simp [execOp, hop, hm, hx, hv, hrun, Result.andThen]
  exact hK' _ _ (hK w' r1 r2)
/-- A map to bools as an assertion. -/
def bmap (P : Program) (k e : TypeId) (b n : Nat) (p : Lit → Bool) : Asn where
  says w Q := BMap P k e w b n p ∧ ∀ i, Q i ↔ i = b
  same := fun ⟨h1, h2⟩ hs => ⟨h1.same (hs b ((h2 b).2 rfl)), h2⟩
  lt := fun ⟨h1, h2⟩ i hi => by rw [(h2 i).1 hi]; exact h1.lt
section
variable {w0 w w' : World} {L : List Asn} {P : Program} {k e : TypeId} {b n : Nat} {p : Lit → Bool}
theorem Sp.newMap (h : Sp w0 L w) (P : Program) (k e : TypeId) : Sp w0 (Sep.bmap P k e w.heap.size 0 (fun _ => false) :: L) (w.alloc (.map #[] 0)) := by
  have h0 := h.any (.map #[] 0)
  have hs := h.size
  obtain ⟨⟨R, h1, h2⟩, h3⟩ := h
  obtain ⟨_, h4⟩ := h0
  have h5 := h1.lt
  exact ⟨⟨fun k => k = w.heap.size ∨ R k, ⟨fun k => k = w.heap.size, R, ⟨BMap.made w P k e, fun k => Iff.rfl⟩, h1.same (fun k hk => Below.heap_alloc _ _ _ (h5 k hk)), fun k hk hr => by have := h5 k hr; omega, fun k => Iff.rfl⟩, fun k hk => by rcases hk with rfl | hk; exact hs; exact h2 k hk⟩, h4⟩
theorem Sp.bmap (h : Sp w0 L w) (hA : Sep.bmap P k e b n p ∈ L) : BMap P k e w b n p := by
  obtain ⟨Q, ⟨h1, _⟩, _⟩ := h.mem hA; exact h1
theorem Sp.bmono {m : Nat} (h : Sp w0 (Sep.bmap P k e b n p :: L) w) (hm : n ≤ m) : Sp w0 (Sep.bmap P k e b m p :: L) w :=
  h.turn fun Q ⟨g1, g2⟩ g3 => ⟨Q, ⟨g1.mono hm, g2⟩, fun i hi => .inl hi, Keep.refl _ _⟩
theorem Sp.mapSet {n' : Nat} {p' : Lit → Bool} (h : Sp w0 (Sep.bmap P k e b n p :: L) w) (h1 : BMap P k e w' b n' p') (hg : w.grownBy w' (some b)) : Sp w0 (Sep.bmap P k e b n' p' :: L) w' :=
  h.turn fun Q ⟨g1, g2⟩ g3 => ⟨Q, ⟨h1, g2⟩, fun i hi => .inl hi, ⟨hg.os, hg.tape, hg.output, hg.size, fun k hk hn => hg.block k hk (fun e => hn ((g2 k).2 (Option.some.inj e)))⟩⟩
end
end Go.Proofs.Ytanaaleojpbfbaa.Sep
