/- One call of both disks; walked. -/
import Derived.Test.YtahdhkhgokggbaaAll28
import Derived.Deep.RegionHeldLaw
import Derived.Deep.RegionHeld3
import Derived.Deep.QuietTactic
import Derived.BigQuiet
namespace Go.Proofs.Ytahdhkhgokggbaa.Judge
open Go.RowKit Go.Proofs.Ytahdhkhgokggbaa.Mem
open Go.Proofs.YtahdhkhgokggbaaW.PrintWords hiding bt
set_option linter.unusedVariables false
set_option linter.unusedSimpArgs false

/-- An act as data. -/
structure Ac where
  x : Int
  b : Int
  d : UInt8
  odd : Bool
  told : Bool
  pa : Option Addr
  pl : Nat
  pc : Nat
def Ac.v (a : Ac) : Value := .agg #[.int .i64 a.x, .int .i64 a.b, .int .u8 (a.d.toNat : Int), .bool a.odd, .bool a.told, .slice a.pa a.pl a.pc]
structure Ac.ok (a : Ac) (w : World) : Prop where
  x : (Lit.int .i64 a.x).wf = true
  b : (Lit.int .i64 a.b).wf = true
  pl : a.pl ≤ a.pc
  pc : a.pc ≤ 9223372036854775807
  p : ∀ j, j < a.pl → ∃ (x : Addr) (m : Nat), a.pa = some x ∧ m < 256 ∧ w.cell? (x.add j) = some (.int .u8 (m : Nat))
/-- Which call it is. -/
def Ac.k (a : Ac) : Int := (a.x.tmod 7 + 7).tmod 7
/-- What is so behind an act. -/
def Ap (w0 : World) (O : Nat → Prop) (F B R n m : Nat) (w w' : World) : Prop := ∃ st now lasts since, Jr w0 O F B R n st now lasts since w' ∧ Rel n st now lasts since ∧ since.length ≤ m ∧ ∀ k, O k → w'.heap[k]? = w.heap[k]?
theorem Jr.lts {w0 w : World} {O : Nat → Prop} {F B R n : Nat} {st : St} {now lasts : List ByteArray} {since : Since} (h : Jr w0 O F B R n st now lasts since w) : ∀ k, O k → k < w.heap.size := by obtain ⟨_, _, _, _, _, _, _, _, _, _, _, _, _, _, _, h, _⟩ := h; exact h

theorem tmod7 (x : Int) : -6 ≤ x.tmod 7 ∧ x.tmod 7 ≤ 6 := by
  have h := Int.tmod_lt_of_pos x (show (0 : Int) < 7 by decide)
  have h2 : -7 < x.tmod 7 := by
    have := Int.tmod_lt_of_pos (-x) (show (0 : Int) < 7 by decide)
    rw [Int.neg_tmod] at this; omega
  omega
theorem kmod (x : Int) : (wrap64 (x.tmod 7 + 7)).tmod 7 = (x.tmod 7 + 7).tmod 7 := by
  have := tmod7 x
  rw [show wrap64 (x.tmod 7 + 7) = x.tmod 7 + 7 by unfold wrap64; omega]

section
variable {w0 w : World} {O : Nat → Prop} {F B R n : Nat} {st : St} {now lasts : List ByteArray} {since : Since}
set_option maxHeartbeats 8000000 in
set_option maxRecDepth 100000 in
theorem act_sync (h : Jr w0 O F B R n st now lasts since w) (hr : Rel n st now lasts since) (hn : n ≤ 2048) (hs : since.length ≤ 99999) (a : Ac) (ha : a.ok w0) (hk : a.k = 4) :
    Calls Try.prog 32 #[.pointer (some ⟨F, 0, none⟩), .pointer (some ⟨R, 0, none⟩), a.v] w fun e w' => e = .returned (.bool true) ∧ Ap w0 O F B R n (since.length + 1) w w' := by
  obtain ⟨x, b, d, odd, told, pa, pl, pc⟩ := a
  have hx := ha.x
  have hj := h.join (ba (br w) (.cells #[.int .i64 x, .int .i64 b, .int .u8 (d.toNat : Int), .bool odd, .bool told, .slice pa pl pc] 26)) w.heap.size (Nat.le_refl _) (by simp)
  have HO0 := Lib.hid (fun (k : Nat) (hk : O k) => h.lts k hk)
  have hb := Blk.new w #[.int .i64 x, .int .i64 b, .int .u8 (d.toNat : Int), .bool odd, .bool told, .slice pa pl pc] 26
  simp [Lit.wf, IntKind.min, IntKind.max, IntKind.signed, IntKind.bits] at hx
  unfold Ac.v
  unfold Ac.k at hk
  dsimp only at hx hk ⊢
  have HJ := Lib.hid hj
  have HB := Lib.hid hb
  have HH := Lib.hid (And.intro hr hs)
  clear h hr hs ha hj hb
  go_enter Try.func32, Try.ntmps32
  go_wp2_with fail
  refine (psector HJ.out d odd).mono ?_
  rintro e w1 ⟨rfl, h1, o1⟩
  have hb1 := (o1 _ (.inr rfl)).trans HB.out
  have ho1 := Lib.hid (fun (k : Nat) (hk : O k) => (o1 k (.inl hk)).trans (Below.heap_alloc _ _ _ (HO0.out k hk)))
  have c0 := Blk.cell hb1 0
  go_upto_region 2 with fail
  go_cut [25] (fun s25 wx => s25 = .int .i64 4 ∧ wx = w1)
  case first =>
    go_wp2
    go_meet
    case rel => exact ⟨by rw [kmod, hk], rfl⟩
  case rest =>
    obtain ⟨rfl, rfl⟩ := hcut
    clear hb1 c0
    go_wp2_with fail
    refine (psync h1 HH.out.1 hn (by have := HH.out.2; omega)).mono ?_
    rintro e w2 ⟨rfl, h2, o2⟩
    go_wp2_with fail
    refine (prsync h2 hn (by have := HH.out.2; omega) HH.out.1.nl HH.out.1.ll).mono ?_
    rintro e w3 ⟨rfl, h3, o3⟩
    go_wp2
    go_ret
    exact ⟨rfl, _, _, _, _, h3.other (fun k hk => .inl hk), HH.out.1.sync, by simp, fun k hk => (o3 k (.inl hk)).trans ((o2 k (.inl hk)).trans (ho1.out k hk))⟩
theorem sinceR_le (now : List ByteArray) (since : Since) (i : Int) (s : ByteArray) : (sinceR now since i s).length ≤ since.length + 1 := by unfold sinceR; split <;> simp
set_option maxHeartbeats 8000000 in
set_option maxRecDepth 100000 in
theorem act_put (h : Jr w0 O F B R n st now lasts since w) (hr : Rel n st now lasts since) (hn : n ≤ 2048) (hs : since.length ≤ 99999) (a : Ac) (ha : a.ok w0) (hk : a.k ≠ 3 ∧ a.k ≠ 4 ∧ a.k ≠ 5 ∧ a.k ≠ 6) :
    Calls Try.prog 32 #[.pointer (some ⟨F, 0, none⟩), .pointer (some ⟨R, 0, none⟩), a.v] w fun e w' => e = .returned (.bool true) ∧ Ap w0 O F B R n (since.length + 1) w w' := by
  obtain ⟨x, b, d, odd, told, pa, pl, pc⟩ := a
  have hx := ha.x
  have hj := h.join (ba (br w) (.cells #[.int .i64 x, .int .i64 b, .int .u8 (d.toNat : Int), .bool odd, .bool told, .slice pa pl pc] 26)) w.heap.size (Nat.le_refl _) (by simp)
  have HO0 := Lib.hid (fun (k : Nat) (hk : O k) => h.lts k hk)
  have hb := Blk.new w #[.int .i64 x, .int .i64 b, .int .u8 (d.toNat : Int), .bool odd, .bool told, .slice pa pl pc] 26
  simp [Lit.wf, IntKind.min, IntKind.max, IntKind.signed, IntKind.bits] at hx
  unfold Ac.v
  unfold Ac.k at hk
  dsimp only at hx hk ⊢
  obtain ⟨kk, hkk⟩ : ∃ kk, kk = (x.tmod 7 + 7).tmod 7 := ⟨_, rfl⟩
  rw [← hkk] at hk
  have HKK := Lib.hid hkk
  have q3 : (kk == 3) = false := beq_eq_false_iff_ne.2 hk.1
  have q4 : (kk == 4) = false := beq_eq_false_iff_ne.2 hk.2.1
  have q5 : (kk == 5) = false := beq_eq_false_iff_ne.2 hk.2.2.1
  have q6 : (kk == 6) = false := beq_eq_false_iff_ne.2 hk.2.2.2
  obtain ⟨s, hse⟩ : ∃ s, s = sect d odd := ⟨_, rfl⟩
  have hsec := psector hj d odd
  rw [← hse] at hsec
  have HSEC := Lib.hid hsec
  have HB := Lib.hid hb
  have HH := Lib.hid (And.intro hr hs)
  clear h hr hs ha hj hb hkk hk hsec hse
  go_enter Try.func32, Try.ntmps32
  go_wp2_with fail
  refine HSEC.out.mono ?_
  rintro e w1 ⟨rfl, h1, o1⟩
  have hb1 : Blk w1 w.heap.size #[.int .i64 x, .int .i64 b, .int .u8 (d.toNat : Int), .bool odd, .bool told, .slice pa pl pc] 26 := (o1 _ (.inr rfl)).trans HB.out
  have ho1 := Lib.hid (fun (k : Nat) (hk : O k) => (o1 k (.inl hk)).trans (Below.heap_alloc _ _ _ (HO0.out k hk)))
  have c0 := Blk.cell hb1 0
  go_upto_region 2 with fail
  go_cut [25] (fun s25 wx => s25 = .int .i64 kk ∧ wx = w1)
  case first =>
    go_wp2
    go_meet
    case rel => exact ⟨by rw [kmod, HKK.out], rfl⟩
  case rest =>
    obtain ⟨rfl, rfl⟩ := hcut
    clear c0 o1
    go_wp2
    have h1 := (h1.below (bd1 (br wc))).1
    have hb1 : Blk wc.drew w.heap.size #[.int .i64 x, .int .i64 b, .int .u8 (d.toNat : Int), .bool odd, .bool told, .slice pa pl pc] 26 := hb1
    go_region_held3 (fun w' => w'.cell? ⟨w.heap.size, 1, none⟩ = some (.int .i64 b) ∧ w'.cell? ⟨w.heap.size, 4, none⟩ = some (.bool told))
      (first | assumption | exact ⟨Blk.cell hb1 1, Blk.cell hb1 4⟩)
      (first
        | (go_at_call 20; refine (pput h1 hn HH.out.1.sl (fun x hx => by have := HH.out.1.few x hx; have := HH.out.2; omega) b s told).mono ?_; rintro e w2 ⟨rfl, h1, o1⟩; have hb1 := (o1 _ (.inr rfl)).trans hb1; have ho1 := Lib.hid (fun (k : Nat) (hk : O k) => (o1 k (.inl hk)).trans (ho1.out k hk)))
        | (go_at_call 37; refine (prwrite h1 hn (by have := HH.out.2; omega) HH.out.1.nl HH.out.1.ll b s told).mono ?_; rintro e w2 ⟨rfl, h1, o1⟩; have hb1 := (o1 _ (.inr rfl)).trans hb1; have ho1 := Lib.hid (fun (k : Nat) (hk : O k) => (o1 k (.inl hk)).trans (ho1.out k hk))))
    all_goals go_wp2
    all_goals go_ret
    all_goals exact ⟨rfl, _, _, _, _, h1.other (fun k hk => .inl hk), HH.out.1.put b s told, sinceR_le _ _ _ _, fun k hk => ho1.out k hk⟩
theorem own_of {w : World} {B0 : Nat} {v : Value} {L : List ByteArray} (h : w.ownsRow B0 9 1 v L.length (L.map Value.string)) (h0 : 0 < L.length) : ∃ g, Own w v g L ∧ B0 ≤ g := by
  rcases h.2 with ⟨_, h1⟩ | ⟨g, cap, cur, rfl, hb, hg, r⟩
  · omega
  · exact ⟨g, ⟨⟨h.1, .inr ⟨g, cap, cur, rfl, Nat.zero_le _, hg, r⟩⟩, rfl⟩, hb⟩
theorem Own.strs {w : World} {v : Value} {g : Nat} {L : List ByteArray} (h : Own w v g L) : Strs w (some ⟨g, 0, none⟩) L := fun i s hs => by
  refine ⟨_, rfl, ?_⟩
  unfold Addr.add
  split
  · rename_i h0; subst h0; exact h.cell hs
  · rw [Nat.zero_add]; exact h.cell hs
theorem pall {O : Nat → Prop} (h : Jr w0 O F B R n st now lasts since w) (hn : n ≤ 2048) (hs : since.length ≤ 100000) (hr : Rel n st now lasts since) (a : Ac) (ha : a.ok w0) :
    Calls Try.prog 38 #[.pointer (some ⟨R, 0, none⟩), .slice a.pa a.pl a.pc] w fun e w' => ∃ (L : List ByteArray) (v : Value), e = .returned v ∧ L.length = n ∧ (∀ i s, L[i]? = some s → mayR lasts since i s = true) ∧ w'.ownsRow w.heap.size 9 1 v L.length (L.map Value.string) ∧ Below w.heap.size w w' := by
  have hb := h.bel
  obtain ⟨P, C, v, g, Q, vN, vL, vS, gN, gL, h1, h2, h3, h4, h5, h6, h7⟩ := h
  have := all_calls h2 (fun k hk => (h5 k hk).1.2) (by rw [hr.ll]; exact hn) hs a.pa a.pl a.pc ha.pl ha.pc (fun j hj => by
    obtain ⟨x, m, e1, e2, e3⟩ := ha.p j hj
    exact ⟨x, m, e1, e2, by rw [hb.cell (World.block_lt_of_cell? w0 _ e3)]; exact e3⟩)
  rw [hr.ll] at this; exact this
theorem settle_same {n : Nat} {st : St} {now lasts : List ByteArray} {since : Since} (h : Rel n st now lasts since) (all : List ByteArray) : settleE st all n = settleER lasts since all n := by unfold settleE settleER; rw [h.fitB all]
set_option maxHeartbeats 8000000 in
set_option maxRecDepth 100000 in
theorem act_settle (h : Jr w0 O F B R n st now lasts since w) (hr : Rel n st now lasts since) (hn : n ≤ 2048) (hs : since.length ≤ 99999) (a : Ac) (ha : a.ok w0) (hn1 : 1 ≤ n) (hk : a.k = 5) :
    Calls Try.prog 32 #[.pointer (some ⟨F, 0, none⟩), .pointer (some ⟨R, 0, none⟩), a.v] w fun e w' => e = .returned (.bool true) ∧ Ap w0 O F B R n (since.length + 1) w w' := by
  obtain ⟨x, b, d, odd, told, pa, pl, pc⟩ := a
  have hx := ha.x
  have hj := h.join (ba (br w) (.cells #[.int .i64 x, .int .i64 b, .int .u8 (d.toNat : Int), .bool odd, .bool told, .slice pa pl pc] 26)) w.heap.size (Nat.le_refl _) (by simp)
  have HO0 := Lib.hid (fun (k : Nat) (hk : O k) => h.lts k hk)
  have hb := Blk.new w #[.int .i64 x, .int .i64 b, .int .u8 (d.toNat : Int), .bool odd, .bool told, .slice pa pl pc] 26
  simp [Lit.wf, IntKind.min, IntKind.max, IntKind.signed, IntKind.bits] at hx
  unfold Ac.v
  unfold Ac.k at hk
  dsimp only at hx hk ⊢
  have HKK := Lib.hid hk
  have HA := Lib.hid ha
  obtain ⟨s, hse⟩ : ∃ s, s = sect d odd := ⟨_, rfl⟩
  have hsec := psector hj d odd
  rw [← hse] at hsec
  have HSEC := Lib.hid hsec
  have HB := Lib.hid hb
  have HH := Lib.hid (And.intro hr hs)
  clear h hr hs ha hj hb hk hsec hse
  go_enter Try.func32, Try.ntmps32
  go_wp2_with fail
  refine HSEC.out.mono ?_
  rintro e w1 ⟨rfl, h1, o1⟩
  have hb1 : Blk w1 w.heap.size #[.int .i64 x, .int .i64 b, .int .u8 (d.toNat : Int), .bool odd, .bool told, .slice pa pl pc] 26 := (o1 _ (.inr rfl)).trans HB.out
  have ho1 := Lib.hid (fun (k : Nat) (hk : O k) => (o1 k (.inl hk)).trans (Below.heap_alloc _ _ _ (HO0.out k hk)))
  have c0 := Blk.cell hb1 0
  go_upto_region 2 with fail
  go_cut [25] (fun s25 wx => s25 = .int .i64 5 ∧ wx = w1)
  case first =>
    go_wp2
    go_meet
    case rel => exact ⟨by rw [kmod, HKK.out], rfl⟩
  case rest =>
    obtain ⟨rfl, rfl⟩ := hcut
    have c5 := Blk.cell hb1 5
    clear c0 o1
    go_wp2_with fail
    refine (pall h1 hn (by have := HH.out.2; omega) HH.out.1 ⟨x, b, d, odd, told, pa, pl, pc⟩ HA.out).mono ?_
    rintro e w2 ⟨L, v, rfl, hL, hmay, hown, b2⟩
    obtain ⟨g, hO, hg⟩ := own_of hown (by omega)
    obtain ⟨c, rfl, hc, hc2⟩ := hO.shape
    have h2 := (h1.join b2 g hg hO.lt).other (O' := fun k => O k ∨ k = g) (fun k hk => hk.elim (fun h => .inl (.inl h)) .inr)
    have ho2 := Lib.hid (fun (k : Nat) (hk : O k) => (b2.block k (h1.lts k (.inl hk))).trans (ho1.out k hk))
    have HS1 := Lib.hid (psettle h2 HH.out.1 hn (by have := HH.out.2; omega) (some ⟨g, 0, none⟩) c L (by omega) hO.strs (fun x hx => by cases hx; exact .inr rfl))
    have HL := Lib.hid (And.intro hL (And.intro hmay hO))
    have hL2 : L.length ≤ 9223372036854775807 := by omega
    have HC1 := Lib.hid (And.intro hg (And.intro hc hL2))
    clear hown hO hmay b2 c5 hb1 h1 hc hL hL2 hg
    go_wp2_with fail
    refine HS1.out.mono ?_
    rintro e w3 ⟨rfl, h3, o3⟩
    have hO3 := HL.out.2.2.same (o3 g (.inr rfl))
    have ho3 := Lib.hid (fun (k : Nat) (hk : O k) => (o3 k (.inl hk)).trans (ho2.out k hk))
    have HS2 := Lib.hid (prsettle h3 hn (by have := HH.out.2; omega) HH.out.1.nl HH.out.1.ll (some ⟨g, 0, none⟩) c L HC1.out.2.2 hO3.strs (fun x hx => by cases hx; exact .inr rfl))
    have es := settle_same HH.out.1 L
    rw [es]
    clear hO3 h3 h2 o3 es HS1
    go_wp2_with fail
    refine HS2.out.mono ?_
    rintro e w4 ⟨rfl, k1, k2⟩
    go_wp2
    go_ret
    refine ⟨rfl, ?_⟩
    cases hb : fitBR lasts since L n with
    | true =>
      have e1 : settleS st L n = settled st L n := by unfold settleS; rw [HH.out.1.fitB L, hb]; rfl
      exact ⟨_, _, _, _, (k1 hb).1.other (fun k hk => .inl hk), by rw [e1]; exact HH.out.1.settle L HL.out.1, by simp, fun k hk => ((k1 hb).2 k (.inl hk)).trans (ho3.out k hk)⟩
    | false =>
      have e1 : settleS st L n = st := by unfold settleS; rw [HH.out.1.fitB L, hb]; rfl
      exact ⟨_, _, _, _, (k2 hb).1.other (fun k hk => .inl hk), by rw [e1]; exact HH.out.1, by omega, fun k hk => ((k2 hb).2 k (.inl hk)).trans (ho3.out k hk)⟩
end
end Go.Proofs.Ytahdhkhgokggbaa.Judge
