/- syndrome walked: the two parities of columns. -/
import Derived.Test.YtgojbngdncligaaSynBack
import Derived.RegionIn
namespace Go.Proofs.Ytgojbngdncligaa.Syn
open Go.RowKit Go.Shelf Go.Proofs.Ytgojbngdncligaa.Mem Go.Proofs.Ytgojbngdncligaa.Bulk Go.Proofs.Ytgojbngdncligaa.Gmul Go.Proofs.Ytgojbngdncligaa.Lanes
set_option linter.unusedVariables false
set_option linter.unusedSimpArgs false
attribute [local go_sem] Oper.semAt_some

def dstep (q s : ByteArray) : ByteArray := orNone (fitN [q, s]) (bDouble q s)
def qOf (ss : List ByteArray) : ByteArray := ss.reverse.foldl dstep (noughts (addAll ss).size)
def makeE (ss : List ByteArray) : Int := if ss.length < 2 ∨ 30 < ss.length then 3 else fitN ss
def makeP (ss : List ByteArray) : ByteArray := orNone (makeE ss) (addAll ss)
def makeQ (ss : List ByteArray) : ByteArray := orNone (makeE ss) (qOf ss)
theorem none_not {e : Int} (h : e ≠ 0) (t : ByteArray) : orNone e t = ⟨#[]⟩ := by unfold orNone; rw [if_neg h]
theorem none_zero (t : ByteArray) : orNone 0 t = t := by unfold orNone; rw [if_pos rfl]
theorem addAll_size (ss : List ByteArray) (s0 : ByteArray) (h : fitN ss = 0) (h0 : ss[0]? = some s0) : s0.size = (addAll ss).size := by
  obtain ⟨h1, h2⟩ := fit_all ss s0 h h0
  cases ss with
  | nil => simp at h0
  | cons t r =>
    simp at h0
    subst h0
    show t.size = (r.foldl bAdd t).size
    have key : ∀ (l : List ByteArray) (q : ByteArray), q.size = t.size → (∀ s ∈ l, s.size = t.size) → (l.foldl bAdd q).size = t.size := by
      intro l
      induction l with
      | nil => exact fun q hq _ => hq
      | cons s l ih => exact fun q hq hs => ih _ (by rw [bAdd_size _ _ (by rw [hq, hs s (by simp)])]; exact hq) (fun x hx => hs x (by simp [hx]))
    exact (key r t rfl (fun s hs => h2 s (by simp [hs]))).symm
attribute [local irreducible] makeE makeP makeQ qOf dstep fitN addAll noughts

set_option maxHeartbeats 2000000 in
set_option maxRecDepth 100000 in
theorem make_few (a : Option Addr) (c : Nat) (ss : List ByteArray) (hr : ss.length < 2 ∨ 30 < ss.length) (hn : ss.length ≤ 1000000) (w : World) :
    Calls Try.prog 26 #[.slice a ss.length c] w fun e w' => e = .returned (.tuple #[.string (makeP ss), .string (makeQ ss), .int .i64 (makeE ss)]) ∧ Below w.heap.size w w' := by
  have e1 : makeE ss = 3 := by unfold makeE; rw [if_pos hr]
  have e2 : makeP ss = ⟨#[]⟩ := by unfold makeP; rw [e1, none_not (by decide)]
  have e3 : makeQ ss = ⟨#[]⟩ := by unfold makeQ; rw [e1, none_not (by decide)]
  rw [e1, e2, e3]
  clear e1 e2 e3
  obtain ⟨len, hL⟩ : ∃ len, len = ss.length := ⟨_, rfl⟩
  rw [← hL] at hr hn ⊢
  clear hL
  refine (callsIn_wide (n := 5)).1 ?_
  refine callsIn_of_wp_marks Try.func26 rfl trivial ?_ rfl
  simp only [Try.ntmps26, List.size_toArray, List.length_cons, List.length_nil, Nat.reduceAdd, Nat.reduceSub, Array.replicate_succ, Array.replicate_zero, List.push_toArray, List.append_toArray, List.nil_append, List.cons_append]
  by_cases h2 : len < 2
  · have d1 : decide ((len : Int) < 2) = true := decide_eq_true (by omega)
    gi_wp2
    exact ⟨_, by simp [results, Try.f26, go_sem], rfl, ba (br _) _⟩
  · have d1 : decide ((len : Int) < 2) = false := decide_eq_false (by omega)
    have d2 : decide ((30 : Int) < (len : Int)) = true := decide_eq_true (by omega)
    gi_wp2
    exact ⟨_, by simp [results, Try.f26, go_sem], rfl, ba (br _) _⟩

set_option maxHeartbeats 4000000 in
set_option maxRecDepth 100000 in
theorem make_unfit (a : Option Addr) (c : Nat) (ss : List ByteArray) (hr : ¬ (ss.length < 2 ∨ 30 < ss.length)) (hf : fitN ss ≠ 0) (hn : ss.length ≤ c) (hcm : c ≤ 9223372036854775807) (hz : ∀ s ∈ ss, s.size ≤ 9223372036854775807) (w : World) (h : Strs w a ss) (hB : ∀ x, a = some x → x.block < w.heap.size) :
    Calls Try.prog 26 #[.slice a ss.length c] w fun e w' => e = .returned (.tuple #[.string (makeP ss), .string (makeQ ss), .int .i64 (makeE ss)]) ∧ Below w.heap.size w w' := by
  have e1 : makeE ss = fitN ss := by unfold makeE; rw [if_neg hr]
  have e2 : makeP ss = ⟨#[]⟩ := by unfold makeP; rw [e1, none_not hf]
  have e3 : makeQ ss = ⟨#[]⟩ := by unfold makeQ; rw [e1, none_not hf]
  rw [e1, e2, e3]
  have hadd := fun (wx : World) (hb : Below w.heap.size w wx) => add_calls a c ss hn hcm hz wx (h.below hb hB) (fun x hx => Nat.lt_of_lt_of_le (hB x hx) hb.size)
  obtain ⟨f, hff⟩ : ∃ f, f = fitN ss := ⟨_, rfl⟩
  rw [← hff] at hadd hf ⊢
  rw [none_not hf] at hadd
  obtain ⟨len, hL⟩ : ∃ len, len = ss.length := ⟨_, rfl⟩
  rw [← hL] at hr hadd ⊢
  have HA := Lib.hid hadd
  clear e1 e2 e3 hL hadd hff hB h hz hn
  have q0 : (f == 0) = false := beq_eq_false_iff_ne.2 hf
  have q1 : (f != 0) = true := bne_iff_ne.2 hf
  have d1 : decide ((len : Int) < 2) = false := decide_eq_false (by omega)
  have d2 : decide ((30 : Int) < (len : Int)) = false := decide_eq_false (by omega)
  clear hf
  refine (callsIn_wide (n := 5)).1 ?_
  refine callsIn_of_wp_marks Try.func26 rfl trivial ?_ rfl
  simp only [Try.ntmps26, List.size_toArray, List.length_cons, List.length_nil, Nat.reduceAdd, Nat.reduceSub, Array.replicate_succ, Array.replicate_zero, List.push_toArray, List.append_toArray, List.nil_append, List.cons_append]
  gi_wp2_with fail
  refine ⟨trivial, ?_⟩
  gi_at_call 15
  refine (callsIn_wide.2 (HA.out _ (ba (br _) _))).mono ?_
  rintro e w1 ⟨rfl, b1⟩
  have hk1 := (Blk.new w #[.string ⟨#[]⟩] 9).below b1 (by simp)
  have hc1 := hk1.cell 0
  have hf1 := hk1.frozen 0
  have hb1 : Below w.heap.size w w1 := bt (ba (br _) _) b1
  clear hk1
  gi_wp2
  have hk2 := ((Blk.new w #[.string ⟨#[]⟩] 9).below b1 (by simp)).set 0 (.string ⟨#[]⟩)
  have hc2 := hk2.cell 0
  exact ⟨_, by simp [results, Try.f26, go_sem, hc2], rfl, bs hb1 (Nat.le_refl _) _⟩

theorem keepsOthers_below {W W' : World} (h : Below W.heap.size W W') : KeepsOthers W W' := ⟨h.size, fun k o ho _ => (h.block k (Array.getElem?_eq_some_iff.1 ho).1).trans ho⟩
theorem dstep_size (q s : ByteArray) : (dstep q s).size ≤ 65536 := by
  unfold dstep
  by_cases h : fitN [q, s] = 0
  · have h2 := fit_two q s h
    rw [h, none_zero, double_size q s h2.2.symm]; exact h2.1
  · rw [none_not h]; decide
theorem dfold_size : ∀ (l : List ByteArray) (q : ByteArray), q.size ≤ 65536 → (l.foldl dstep q).size ≤ 65536
  | [], q, h => h
  | s :: r, q, h => dfold_size r _ (dstep_size q s)
set_option maxHeartbeats 4000000 in
set_option maxRecDepth 100000 in
theorem make_fit (a : Option Addr) (c : Nat) (ss : List ByteArray) (hr : ¬ (ss.length < 2 ∨ 30 < ss.length)) (hf : fitN ss = 0) (hn : ss.length ≤ c) (hcm : c ≤ 9223372036854775807) (hz : ∀ s ∈ ss, s.size ≤ 9223372036854775807) (w : World) (h : Strs w a ss) (hB : ∀ x, a = some x → x.block < w.heap.size) :
    Calls Try.prog 26 #[.slice a ss.length c] w fun e w' => e = .returned (.tuple #[.string (makeP ss), .string (makeQ ss), .int .i64 (makeE ss)]) ∧ Below w.heap.size w w' := by
  have e1 : makeE ss = 0 := by unfold makeE; rw [if_neg hr, hf]
  have e2 : makeP ss = addAll ss := by unfold makeP; rw [e1, none_zero]
  have e3 : makeQ ss = qOf ss := by unfold makeQ; rw [e1, none_zero]
  rw [e1, e2, e3]
  have hadd := fun (wx : World) (hb : Below w.heap.size w wx) => add_calls a c ss hn hcm hz wx (h.below hb hB) (fun x hx => Nat.lt_of_lt_of_le (hB x hx) hb.size)
  rw [hf] at hadd
  simp only [none_zero] at hadd
  have hps : (addAll ss).size ≤ 65536 := by
    obtain ⟨s0, hs0⟩ : ∃ s0, ss[0]? = some s0 := ⟨_, List.getElem?_eq_getElem (by omega)⟩
    exact addAll_size ss s0 hf hs0 ▸ (fit_all ss s0 hf hs0).1
  obtain ⟨p, hp⟩ : ∃ p, p = addAll ss := ⟨_, rfl⟩
  have hq : qOf ss = ss.reverse.foldl dstep (noughts p.size) := by unfold qOf; rw [← hp]
  rw [hq]
  rw [← hp] at hadd hps ⊢
  obtain ⟨len, hL⟩ : ∃ len, len = ss.length := ⟨_, rfl⟩
  have hlen : ss.length ≤ 1000000 := by omega
  have HH := Lib.hid (And.intro h (And.intro hB (And.intro hlen (And.intro hL hz))))
  rw [← hL] at hr hadd ⊢
  have HA := Lib.hid hadd
  have hnn := fun wx => noughts_calls (p.size : Nat) wx
  have hnt : (max 0 (min (p.size : Int) 65536)).toNat = p.size := by omega
  rw [hnt] at hnn
  obtain ⟨N, hN⟩ : ∃ N, N = noughts p.size := ⟨_, rfl⟩
  have hNs : N.size ≤ 65536 := by rw [hN, BulkLimitsW.noughts_size]; exact hps
  rw [← hN] at hnn ⊢
  have HN := Lib.hid hnn
  obtain ⟨Qv, hQ⟩ : ∃ Qv, Qv = ss.reverse.foldl dstep N := ⟨_, rfl⟩
  rw [← hQ]
  have HQ := Lib.hid hQ
  clear e1 e2 e3 hadd hB h hn hp hq hf hnt hz hlen hL hnn hN hQ
  have d1 : decide ((len : Int) < 2) = false := decide_eq_false (by omega)
  have d2 : decide ((30 : Int) < (len : Int)) = false := decide_eq_false (by omega)
  refine (callsIn_wide (n := 5)).1 ?_
  refine callsIn_of_wp_marks Try.func26 rfl trivial ?_ rfl
  simp only [Try.ntmps26, List.size_toArray, List.length_cons, List.length_nil, Nat.reduceAdd, Nat.reduceSub, Array.replicate_succ, Array.replicate_zero, List.push_toArray, List.append_toArray, List.nil_append, List.cons_append]
  gi_wp2_with fail
  refine ⟨trivial, ?_⟩
  gi_at_call 15
  refine (callsIn_wide.2 (HA.out _ (ba (br _) _))).mono ?_
  rintro e w1 ⟨rfl, b1⟩
  gi_wp2_with fail
  refine ⟨trivial, ?_⟩
  gi_at_call 24
  refine (callsIn_wide.2 (HN.out _)).mono ?_
  rintro e w2 ⟨rfl, b2⟩
  have hk1 := ((Blk.new w #[.string ⟨#[]⟩] 9).below b1 (by simp)).below b2 (by have := b1.size; simp at this; omega)
  have hc1 := hk1.cell 0
  have hf1 := hk1.frozen 0
  have hb2 : Below w.heap.size w w2 := bt (bt (ba (br _) _) b1) b2
  have HK := Lib.hid hk1
  have hsz : w.heap.size < w2.heap.size := hk1.lt
  clear hk1 b1 b2
  gi_wp2_with fail
  refine ⟨trivial, ?_⟩
  gi_at_call 46
  refine (back_in Fence.wide 4 trivial rfl _ _ _ _).mono ?_
  rintro e w3 ⟨rfl, rfl⟩
  gi_wp2
  obtain ⟨W0, hW0⟩ : ∃ W0, ((w2.setCell ⟨w.heap.size, 0, none⟩ (.string N)).alloc (.cells #[.slice a len c] 22)) = W0 := ⟨_, rfl⟩
  have hbx : Boxed W0 w.heap.size 9 (.string N) := by rw [← hW0]; exact Boxed.alloc (Boxed.set (v := .string ⟨#[]⟩) _ HK.out) _
  have hsz0 : W0.heap.size = w2.heap.size + 1 := by rw [← hW0]; simp
  have hbs : Boxed W0 w2.heap.size 22 (.slice a len c) := by
    rw [← hW0]
    have := Boxed.new (w2.setCell ⟨w.heap.size, 0, none⟩ (.string N)) 22 (.slice a len c)
    simpa using this
  have hB0 : Below w.heap.size w W0 := by rw [← hW0]; exact ba (bs hb2 (Nat.le_refl _) _) _
  rw [hW0]
  have hBs : w2.heap.size < W0.heap.size := by omega
  have hle0 : w.heap.size ≤ W0.heap.size := hB0.size
  refine wpIn_rangeFunc_ownG (S := fun ys => ys = came HH.out.2.2.2.2 0) rfl (by decide) (gf := 56) (lb := #[.pointer (some ⟨w2.heap.size, 0, none⟩)]) rfl trivial (enters_of Try.func56 (by kernel_rfl) rfl)
    (back_stops Fence.wide 4 trivial rfl (by decide) w2.heap.size w.heap.size a c ss HH.out.2.2.2.2 HH.out.2.2.1 W0 hBs hle0 (by rw [← HH.out.2.2.2.1]; exact hbs.cell) (HH.out.1.below hB0 HH.out.2.1) HH.out.2.1) KpB.trans (KpB.put hle0 hBs) (Below.refl _ _) (fun _ => rfl)
    (fun pre W => (Boxed W w.heap.size 9 (.string ((pre.map fun x => x.1.2).foldl dstep N)) ∧ Boxed W w2.heap.size 22 (.slice a len c)) ∧ Below w.heap.size w W)
    (fun _ _ _ => False)
    (OwnFrom.and (OwnFrom.and (Own.from (boxed_own _ _ _) _) (Own.from (boxed_own _ _ (fun _ => .slice a len c)) _)) (ownFrom_below (Nat.le_refl _) hle0))
    (fun _ _ _ _ _ hs _ _ => hs)
    ⟨⟨hbx, hbs⟩, hB0⟩
    (fun x => { tmps := #[.slice a len c, undef, .string p, .pointer (some ⟨w.heap.size, 0, none⟩), .int .i64 0, undef, .string x.1.2, .slice a len c, .int .i64 len, .bool false, .bool false, .slice a len c, .int .i64 len, .bool false, .bool false,
      .tuple #[.string p, .int .i64 0], .slice a len c, .tuple #[.string p, .int .i64 0], .string p, .int .i64 0, .int .i64 0, .bool false, undef, .string p, .int .i64 p.size, .string N, .slice a len c, .func (.func 56) #[] #[.pointer (some ⟨w2.heap.size, 0, none⟩)],
      .int .i64 x.1.1, .string x.1.2, undef, undef, undef, undef, undef, undef, undef, undef], defers := [] }) ?assign ?body ?done ?stop
  case assign =>
    intro l x W K hK
    gi_wp2
    exact hK
  case body =>
    rintro l pre x W ⟨⟨hx, hs⟩, hB⟩ _
    have hc := hx.cell
    have hfz := hx.frozen
    obtain ⟨q, hq⟩ : ∃ q, q = (pre.map fun x => x.1.2).foldl dstep N := ⟨_, rfl⟩
    have hqs : q.size ≤ 65536 := by rw [hq]; exact dfold_size _ _ hNs
    have hstep : ((pre ++ [x]).map fun x => x.1.2).foldl dstep N = orNone (fitN [q, x.1.2]) (bDouble q x.1.2) := by rw [List.map_append, List.foldl_append, ← hq]; show dstep q x.1.2 = _; unfold dstep; rfl
    rw [← hq] at hc hx
    have HS := Lib.hid hstep
    have HX := Lib.hid x.2
    clear hstep hq
    gi_wp2_with fail
    refine ⟨trivial, ?_⟩
    gi_at_call 22
    refine (CallsIn.inRound l (callsIn_wide.2 (double_calls q x.1.2 (by omega) HX.out W))).mono ?_
    rintro e W1 ⟨rfl, b1⟩
    have hx1 : Boxed W1 w.heap.size 9 (.string q) := (b1.block _ hx.lt).trans hx
    have hc1 := hx1.cell
    have hf1 := hx1.frozen
    have hlt := hx.lt
    have hlt2 := hs.lt
    gi_wp2
    refine ⟨(keepsOthers_below b1).trans (KeepsOthers.setCell _ _ _) |>.from _, ⟨(b1.mono (Nat.le_of_lt hlt)).setCell (p := ⟨w.heap.size, 0, none⟩) (Nat.le_refl _) _, ?_⟩, ⟨?_, ?_⟩, ?_⟩
    · show (W1.setCell _ _).heap[w2.heap.size]? = _
      rw [Below.heap_setCell _ _ _ _ (by show w2.heap.size ≠ w.heap.size; omega)]; exact b1.block _ hlt2
    · rw [HS.out]; exact hx1.set _
    · exact ((Boxed.other (B' := w.heap.size) ((b1.block _ hlt2).trans hs) (by omega) _))
    · exact bs (bt hB b1) (Nat.le_refl _) _
  case done =>
    rintro D ys W hD rfl ⟨⟨hx, _⟩, hB⟩ hK
    rw [came_texts, ← HQ.out] at hx
    have hc := hx.cell
    have hfz := hx.frozen
    gi_wp2
    gi_region
    gi_wp2
    have hK' := ((KeepsOthers.setCell W ⟨w.heap.size, 0, none⟩ (.string Qv)).trans (KeepsOthers.drew _)).same D _ hK rfl
    refine ⟨by simp, .inl ⟨_, _, rfl, run_takeDeferred hK', ?_⟩⟩
    have hc2 := (hx.set (.string Qv)).cell
    have hc5 := cell_kept (W := (W.setCell ⟨w.heap.size, 0, none⟩ (.string Qv)).drew) hc2 (grownBy_putObj' _ D (.deferred none)) (fun r e => by cases e; exact ⟨_, hK', rfl⟩)
    refine ⟨_, by simp [results, Try.f26, go_sem, hc5], rfl, ?_⟩
    exact (bd1 (bs hB (Nat.le_refl _) _)).trans (belowK_b (w := w) (Nat.le_refl _) _ D _ _ (by omega) hK' rfl rfl)
  case stop =>
    rintro D c pre W _ _ h _
    exact h.elim

theorem make_calls (a : Option Addr) (c : Nat) (ss : List ByteArray) (hn : ss.length ≤ c) (hcm : c ≤ 9223372036854775807) (hl : ss.length ≤ 1000000) (hz : ∀ s ∈ ss, s.size ≤ 9223372036854775807) (w : World) (h : Strs w a ss) (hB : ∀ x, a = some x → x.block < w.heap.size) :
    Calls Try.prog 26 #[.slice a ss.length c] w fun e w' => e = .returned (.tuple #[.string (makeP ss), .string (makeQ ss), .int .i64 (makeE ss)]) ∧ Below w.heap.size w w' := by
  by_cases hr : ss.length < 2 ∨ 30 < ss.length
  · exact make_few a c ss hr hl w
  · by_cases hf : fitN ss = 0
    · exact make_fit a c ss hr hf hn hcm hz w h hB
    · exact make_unfit a c ss hr hf hn hcm hz w h hB
end Go.Proofs.Ytgojbngdncligaa.Syn
