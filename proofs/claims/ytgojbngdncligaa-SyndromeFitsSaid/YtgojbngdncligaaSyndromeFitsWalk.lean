/- SyndromeFits: which parities fit which columns is the document's answer; walked. -/
import Derived.Test.YtgojbngdncligaaSynRef
import Derived.Deep.DeepCutAuto
namespace Go.Proofs.Ytgojbngdncligaa.SyndromeFitsW
open Go.RowKit Go.Proofs.Ytgojbngdncligaa.Mem Go.Proofs.Ytgojbngdncligaa.Bulk Go.Proofs.Ytgojbngdncligaa.Opn Go.Proofs.Ytgojbngdncligaa.Syn
set_option linter.unusedVariables false
set_option linter.unusedSimpArgs false

/-- The two texts in their box, the columns in their row. -/
structure StF (w : World) (b : Nat) (x y : ByteArray) (a : Option Addr) (L : List ByteArray) (w' : World) : Prop where
  c0 : w'.cell? ⟨b, 0, none⟩ = some (.string x)
  c1 : w'.cell? ⟨b, 1, none⟩ = some (.string y)
  l : StL w a L w'
theorem StF.step {w : World} {b : Nat} {x y : ByteArray} {a : Option Addr} {L : List ByteArray} {u v : World} (h : StF w b x y a L u) (k : Below u.heap.size u v) : StF w b x y a L v :=
  ⟨by rw [k.cell (World.block_lt_of_cell? u _ h.c0)]; exact h.c0, by rw [k.cell (World.block_lt_of_cell? u _ h.c1)]; exact h.c1, h.l.step k⟩
theorem StF.three {w : World} {b : Nat} {x y : ByteArray} {a : Option Addr} {L : List ByteArray} {u : World} (h : StF w b x y a L u) : u.cell? ⟨b, 0, none⟩ = some (.string x) ∧ u.cell? ⟨b, 1, none⟩ = some (.string y) ∧ StF w b x y a L u := ⟨h.c0, h.c1, h⟩
theorem StF.drew {w : World} {b : Nat} {x y : ByteArray} {a : Option Addr} {L : List ByteArray} {u : World} (h : StF w b x y a L u) : StF w b x y a L u.drew := h.step (bd1 (br _))

theorem setCell_far (w : World) (p q : Addr) (v : Value) (h : q.block ≠ p.block) : (w.setCell p v).cell? q = w.cell? q := World.cell?_of_block (Below.heap_setCell w _ _ _ h)
set_option maxHeartbeats 4000000 in
set_option maxRecDepth 100000 in
theorem walk (a0 : Option Addr) (len0 cap0 : Nat) (a1 : Array Value) (a2 : Bool) (w : World) (f0 : Rd w (.slice 1 16 (.str)) [.slice a0 len0 cap0]) (f1 : Rd w (arr 1 (.str) 2) a1.toList) :
    Calls Try.prog 9 #[.slice a0 len0 cap0, .agg a1, .bool a2] w fun e w' => e = .returned (.bool true) ∧ Below w.heap.size w w' := by
  obtain ⟨ss, rfl, hn, hcm, hS, hz⟩ := rd_strs f0
  obtain ⟨s0, s1, rfl, z0, z1⟩ := rd_pair f1
  obtain ⟨L, hL⟩ : ∃ L, L = SynCut.cutL true ss := ⟨_, rfl⟩
  have hcut := SynCut.cut_calls a0 cap0 ss true hn hcm (fun s h => by have := hz s h; omega) (w.alloc (.cells #[.string s0, .string s1] 31)) (fun i s h => by
    obtain ⟨x, hx, hc⟩ := hS i s h
    exact ⟨x, hx, by rw [(ba (br w) _).cell (World.block_lt_of_cell? w _ hc)]; exact hc⟩)
  have hl := Syn.cut_len true ss
  have hs := Syn.cut_size true ss
  rw [← hL] at hcut hl hs
  have HC := Lib.hid hcut
  have HS := Lib.hid hs
  have hl12 : L.length ≤ 34 := by omega
  clear hcut hl hL hS hz f0 hs f1
  have hbx : Blk (w.alloc (.cells #[.string s0, .string s1] 31)) w.heap.size #[.string s0, .string s1] 31 := Blk.new _ _ _
  have HBX := Lib.hid hbx
  clear hbx
  obtain ⟨E, hE⟩ : ∃ x, x = makeE L := ⟨_, rfl⟩
  obtain ⟨P, hP⟩ : ∃ x, x = makeP L := ⟨_, rfl⟩
  obtain ⟨Q, hQ⟩ : ∃ x, x = makeQ L := ⟨_, rfl⟩
  have HE := Lib.hid (And.intro hE (And.intro hP hQ))
  clear hE hP hQ
  go_enter Try.func9, Try.ntmps9
  go_wp2_with fail
  refine HC.out.mono ?_
  rintro e w1 ⟨v, rfl, hown, b1⟩
  obtain ⟨a, c, rfl, hc, hc2, hst, hB⟩ := own_strs hown
  have hne : ∀ x, a = some x → x.block ≠ w.heap.size := fun x hx => by
    subst hx
    have := hown.lt x.block rfl
    simp at this; omega
  have HNE := Lib.hid hne
  clear hne
  have hbx1 := HBX.out.below b1 (by simp)
  have hSL : StL w a L w1 := ⟨hst, hB, bt (ba (br _) _) b1⟩
  have HRM := Lib.hid (ref_make_calls a c L (by omega) hc w1 hst)
  have e1 := HE.out
  rw [← e1.1, ← e1.2.1, ← e1.2.2] at HRM
  clear hown hst hB e1 b1
  go_wp2_with fail
  refine HRM.out.mono ?_
  rintro e w2 ⟨rfl, b2⟩
  have hbx2 := hbx1.below b2 hbx1.lt
  have hSL2 := hSL.step b2
  clear hbx1 hSL b2
  have key : ∀ (x y : ByteArray) (wx : World), StF w w.heap.size x y a L wx → Hid (Calls Try.prog 31 #[.slice a L.length c, .string x, .string y] wx fun e w' => e = .returned (.bool (fitsB L x y)) ∧ StF w w.heap.size x y a L w') := fun x y wx h => Lib.hid (by
    refine (fits_calls a c L x y hc hc2 (by omega) (fun s h => by have := HS.out s h; omega) wx h.l.strs h.l.lt).mono ?_
    rintro e w' ⟨rfl, b⟩; exact ⟨rfl, h.step b⟩)
  have rkey : ∀ (x y : ByteArray) (wx : World), StF w w.heap.size x y a L wx → Hid (Calls Try.prog 32 #[.slice a L.length c, .string x, .string y] wx fun e w' => e = .returned (.bool (fitsB L x y)) ∧ StF w w.heap.size x y a L w') := fun x y wx h => Lib.hid (by
    refine (ref_fits_calls a c L x y (by omega) hc wx h.l.strs).mono ?_
    rintro e w' ⟨rfl, b⟩; exact ⟨rfl, h.step b⟩)
  have wkey : ∀ (x y : ByteArray) (wx : World), StF w w.heap.size x y a L wx → Hid (Calls Try.prog 28 #[] wx fun e w' => e = .returned (.bool true) ∧ StF w w.heap.size x y a L w') := fun x y wx h => Lib.hid (by
    refine (Syn.wakes_calls wx).mono ?_
    rintro e w' ⟨rfl, b⟩; exact ⟨rfl, h.step b⟩)
  have HK := Lib.hid key
  have HR := Lib.hid rkey
  have HW := Lib.hid wkey
  have hF2 : StF w w.heap.size s0 s1 a L w2 := ⟨hbx2.cell 0, hbx2.cell 1, hSL2⟩
  have hc0 := hbx2.cell 0
  have hc1 := hbx2.cell 1
  have hf0 := hbx2.frozen 0
  have hf1 := hbx2.frozen 1
  clear key rkey wkey
  cases a2 with
  | false =>
    go_upto_region 5 with fail
    obtain ⟨wx, hwx⟩ : ∃ wx, wx = w2 := ⟨_, rfl⟩
    have hF : StF w w.heap.size s0 s1 a L wx := by rw [hwx]; exact hF2
    rw [← hwx]
    clear hwx
    go_region_held3 (fun w' => w'.cell? ⟨w.heap.size, 0, none⟩ = some (.string s0) ∧ w'.cell? ⟨w.heap.size, 1, none⟩ = some (.string s1) ∧ StF w w.heap.size s0 s1 a L w') (first | exact StF.three (by assumption) | exact hF.drew.three) (first
      | (go_at_call 28; refine ((HW.out s0 s1 _ (by first | assumption | exact And.right (And.right (by assumption)))).out).mono ?_; rintro e w' ⟨rfl, hS'⟩)
      | (go_at_call 31; refine ((HK.out s0 s1 _ (by first | assumption | exact And.right (And.right (by assumption)))).out).mono ?_; rintro e w' ⟨rfl, hS'⟩)
      | (go_at_call 32; refine ((HR.out s0 s1 _ (by first | assumption | exact And.right (And.right (by assumption)))).out).mono ?_; rintro e w' ⟨rfl, hS'⟩))
    all_goals go_wp2
    all_goals go_ret
    all_goals exact ⟨rfl, (StF.l (b := w.heap.size) (x := s0) (y := s1) (by assumption)).below⟩
  | true =>
    by_cases h0 : E = 0
    · have hbx3 := (hbx2.set 0 (.string P)).set 1 (.string Q)
      have hB3 : Below w.heap.size w ((w2.setCell ⟨w.heap.size, 0, none⟩ (.string P)).setCell ⟨w.heap.size, 1, none⟩ (.string Q)) := bs (bs hSL2.below (Nat.le_refl _) _) (Nat.le_refl _) _
      have hF3 : StF w w.heap.size P Q a L ((w2.setCell ⟨w.heap.size, 0, none⟩ (.string P)).setCell ⟨w.heap.size, 1, none⟩ (.string Q)) := ⟨hbx3.cell 0, hbx3.cell 1, ⟨fun i s h => by
        obtain ⟨x, hx, hcx⟩ := hSL2.strs i s h
        refine ⟨x, hx, ?_⟩
        have hne := HNE.out x hx
        rw [setCell_far _ _ _ _ (by unfold Addr.add; split <;> exact hne), setCell_far _ _ _ _ (by unfold Addr.add; split <;> exact hne)]
        exact hcx, fun x hx => by have := hSL2.lt x hx; simpa using this, hB3⟩⟩
      have HF3 := Lib.hid hF3
      clear hbx3 hB3 hF3
      go_upto_region 5 with fail
      obtain ⟨wx, hwx⟩ : ∃ wx, wx = ((w2.setCell ⟨w.heap.size, 0, none⟩ (.string P)).setCell ⟨w.heap.size, 1, none⟩ (.string Q)) := ⟨_, rfl⟩
      have hF : StF w w.heap.size P Q a L wx := by rw [hwx]; exact HF3.out
      rw [← hwx]
      clear hwx
      go_region_held3 (fun w' => w'.cell? ⟨w.heap.size, 0, none⟩ = some (.string P) ∧ w'.cell? ⟨w.heap.size, 1, none⟩ = some (.string Q) ∧ StF w w.heap.size P Q a L w') (first | exact StF.three (by assumption) | exact hF.drew.three) (first
        | (go_at_call 28; refine ((HW.out P Q _ (by first | assumption | exact And.right (And.right (by assumption)))).out).mono ?_; rintro e w' ⟨rfl, hS'⟩)
        | (go_at_call 31; refine ((HK.out P Q _ (by first | assumption | exact And.right (And.right (by assumption)))).out).mono ?_; rintro e w' ⟨rfl, hS'⟩)
        | (go_at_call 32; refine ((HR.out P Q _ (by first | assumption | exact And.right (And.right (by assumption)))).out).mono ?_; rintro e w' ⟨rfl, hS'⟩))
      all_goals go_wp2
      all_goals go_ret
      all_goals exact ⟨rfl, (StF.l (b := w.heap.size) (x := P) (y := Q) (by assumption)).below⟩
    · have q0 : (E == 0) = false := beq_eq_false_iff_ne.2 h0
      go_upto_region 5 with fail
      obtain ⟨wx, hwx⟩ : ∃ wx, wx = w2 := ⟨_, rfl⟩
      have hF : StF w w.heap.size s0 s1 a L wx := by rw [hwx]; exact hF2
      rw [← hwx]
      clear hwx
      go_region_held3 (fun w' => w'.cell? ⟨w.heap.size, 0, none⟩ = some (.string s0) ∧ w'.cell? ⟨w.heap.size, 1, none⟩ = some (.string s1) ∧ StF w w.heap.size s0 s1 a L w') (first | exact StF.three (by assumption) | exact hF.drew.three) (first
        | (go_at_call 28; refine ((HW.out s0 s1 _ (by first | assumption | exact And.right (And.right (by assumption)))).out).mono ?_; rintro e w' ⟨rfl, hS'⟩)
        | (go_at_call 31; refine ((HK.out s0 s1 _ (by first | assumption | exact And.right (And.right (by assumption)))).out).mono ?_; rintro e w' ⟨rfl, hS'⟩)
        | (go_at_call 32; refine ((HR.out s0 s1 _ (by first | assumption | exact And.right (And.right (by assumption)))).out).mono ?_; rintro e w' ⟨rfl, hS'⟩))
      all_goals go_wp2
      all_goals go_ret
      all_goals exact ⟨rfl, (StF.l (b := w.heap.size) (x := s0) (y := s1) (by assumption)).below⟩
end Go.Proofs.Ytgojbngdncligaa.SyndromeFitsW
