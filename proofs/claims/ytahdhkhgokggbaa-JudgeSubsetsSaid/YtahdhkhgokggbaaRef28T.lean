/- The document's Flat: Settle, Ways; walked. -/
import Derived.Test.YtahdhkhgokggbaaRef28S
import Derived.Deep.QuietTactic
import Derived.BigQuiet
namespace Go.Proofs.Ytahdhkhgokggbaa.Judge
open Go.RowKit Go.Proofs.Ytahdhkhgokggbaa.Mem
open Go.Proofs.YtahdhkhgokggbaaW.PrintWords hiding bt
set_option linter.unusedVariables false
set_option linter.unusedSimpArgs false

def settleER (lasts : List ByteArray) (since : Since) (all : List ByteArray) (n : Nat) : Int := if fitBR lasts since all n = true then 0 else 4
section
variable {w : World} {R : Nat} {Q : Nat → Prop} {now lasts : List ByteArray} {since : Since} {vN vL vS : Value} {gN gL : Nat}
set_option maxHeartbeats 4000000 in
set_option maxRecDepth 100000 in
theorem rsettle_calls (h : Rf w R Q now lasts since vN vL vS gN gL) (hQ : ∀ k, Q k → k < w.heap.size) (hl : lasts.length = now.length) (hn : now.length ≤ 1000000) (hsl : since.length ≤ 1000000) (a : Option Addr) (c : Nat) (all : List ByteArray) (hall : all.length ≤ 9223372036854775807) (hS : Strs w a all) (hap : ∀ x, a = some x → ¬ Q x.block) :
    Calls Try.prog 77 #[.pointer (some ⟨R, 0, none⟩), .slice a all.length c] w fun e w' => e = .returned (.int .i64 (settleER lasts since all now.length)) ∧
      if fitBR lasts since all now.length = true then RfP w w' R Q all all [] else RfP w w' R Q now lasts since := by
  have HFi := Lib.hid (rfits_calls h hl hn hsl a c all hall hS)
  obtain ⟨i0, hi0⟩ : ∃ i, i = fitIR lasts since all now.length := ⟨_, rfl⟩
  rw [← hi0] at HFi
  cases hb : fitBR lasts since all now.length with
  | false =>
    have hE : settleER lasts since all now.length = 4 := by unfold settleER; rw [hb]; rfl
    rw [hE]
    rw [hb] at HFi
    have HF := Lib.hid h
    simp only [Bool.false_eq_true, if_false]
    obtain ⟨m, hm⟩ : ∃ m, m = all.length := ⟨_, rfl⟩
    rw [← hm] at HFi ⊢
    clear hE hb h hQ hl hn hsl hS hap hi0 hm hall
    go_enter Try.func77, Try.ntmps77
    go_wp2_with fail
    refine HFi.out.mono ?_
    rintro e w1 ⟨rfl, ⟨nd, rfl⟩⟩
    go_wp2
    go_ret
    exact ⟨rfl, HF.out.rfp nd⟩
  | true =>
    have hE : settleER lasts since all now.length = 0 := by unfold settleER; rw [hb]; rfl
    have hmn : all.length = now.length := by
      unfold fitBR at hb
      rw [Bool.and_eq_true] at hb
      exact of_decide_eq_true hb.1
    rw [hE]
    rw [hb] at HFi
    simp only [if_true]
    obtain ⟨n, hnn⟩ : ∃ n, n = all.length := ⟨_, rfl⟩
    rw [← hnn] at HFi ⊢
    have hn2 : n ≤ 1000000 := by omega
    have HH := Lib.hid (And.intro h (And.intro hQ (And.intro hl (And.intro hS (And.intro hap (And.intro hmn (And.intro hnn hn)))))))
    clear hE hb h hQ hl hn hS hap hi0 hall hmn hnn hsl
    go_enter Try.func77, Try.ntmps77
    go_wp2_with fail
    refine HFi.out.mono ?_
    rintro e w1 ⟨rfl, ⟨nd, rfl⟩⟩
    go_wp2
    go_loopw [7] (fun i wr => ∃ k : Nat, k ≤ n ∧ i = .int .i64 k ∧ RfP w wr R Q (mix all now k) lasts since) (fun i _ => n - (intOf i).toNat)
    case atStart => exact ⟨0, Nat.zero_le _, rfl, by rw [mix_zero]; exact HH.out.1.rfp nd⟩
    case round =>
      obtain ⟨k, hk, rfl, ⟨Q', vN', vL', vS', gN', gL', hsub, hrf, hkeep⟩⟩ := hrel
      have hml := mix_length all now HH.out.2.2.2.2.2.1.symm
      by_cases hlt : k < n
      · have dlt : decide ((k : Int) < (n : Int)) = true := decide_eq_true (by omega)
        have ilt : ((k : Int) < (n : Int)) = True := eq_true (by omega)
        obtain ⟨c0, _, _⟩ := hrf.cells
        obtain ⟨cN, hvN, hcN, hcN2⟩ := hrf.n.shape
        rw [hvN, hml, ← HH.out.2.2.2.2.2.2.1] at c0
        rw [hml, ← HH.out.2.2.2.2.2.2.1] at hcN
        obtain ⟨s, hs⟩ : ∃ s, all[k]? = some s := ⟨_, List.getElem?_eq_getElem (by have := HH.out.2.2.2.2.2.2.1; omega)⟩
        obtain ⟨y, rfl, hc⟩ := HH.out.2.2.2.1 k s hs
        have hc' : wr.cell? (y.add k) = some (.string s) := by
          have hyb : (y.add k).block = y.block := by unfold Addr.add; split <;> rfl
          rw [World.cell?_of_block (w := w) (w' := wr) (by rw [hyb]; exact hkeep.block _ (by have := World.block_lt_of_cell? w _ hc; rw [hyb] at this; exact this) (HH.out.2.2.2.2.1 y rfl))]; exact hc
        obtain ⟨t, ht⟩ : ∃ t, (mix all now k)[k]? = some t := ⟨_, List.getElem?_eq_getElem (by rw [hml]; have := HH.out.2.2.2.2.2.2.1; omega)⟩
        have ct := hrf.n.cell ht
        have ft := hrf.n.frozen k
        have hnext := (hrf.drewN 1).setNow k s
        rw [mix_next all now HH.out.2.2.2.2.2.1.symm k s hs] at hnext
        have hkeep2 : Keep Q w ((wr.drewN 1).setCell ⟨gN', k, none⟩ (.string s)) := by
          refine hkeep.call (((Keep.refl Q' wr).drewN 1).setCell (p := ⟨gN', k, none⟩) (.inl hrf.qn) _) (fun i hi => ?_)
          rcases hsub i hi with q | q
          · exact .inl q
          · exact .inr q.1
        have hsub2 : Sub Q Q' w ((wr.drewN 1).setCell ⟨gN', k, none⟩ (.string s)) := fun i hi => by
          rcases hsub i hi with q | q
          · exact .inl q
          · exact .inr ⟨q.1, by simp; exact q.2⟩
        have HP : Hid (RfP w ((wr.drewN 1).setCell ⟨gN', k, none⟩ (.string s)) R Q (mix all now (k + 1)) lasts since) := Lib.hid ⟨Q', _, _, _, _, _, hsub2, hnext, hkeep2⟩
        have j0 : (0 : Int) ≤ (k : Int) := by omega
        have j1 : (k : Int) < (n : Int) := by omega
        have e3 : wr.drew = wr.drewN 1 := rfl
        clear hs ht hnext hkeep2 hsub2 hsub hrf hkeep hvN hml hc
        go_upto_region 7 with fail
        go_still_tail 10, (by kernel_rfl)
        go_wp2
        go_roundw
        case measure => simp [intOf]; omega
        case rel => exact ⟨k + 1, by omega, by go_num, HP.out⟩
      · obtain rfl : k = n := by omega
        have dlt : decide ((k : Int) < (k : Int)) = false := decide_eq_false (by omega)
        have hm : mix all now k = all := by rw [HH.out.2.2.2.2.2.2.1]; exact mix_all _ _ HH.out.2.2.2.2.2.1.symm
        rw [hm] at hrf
        have hnl := HH.out.2.2.2.2.2.1
        have hQ' := sub_bound HH.out.2.1 hsub hkeep.size
        have HSY := Lib.hid (rsync_calls hrf hQ' (by have := HH.out.2.2.1; omega) (by have := HH.out.2.2.2.2.2.2.2; omega))
        have HSK := Lib.hid (And.intro hsub hkeep)
        clear hm hrf hsub hkeep hnl hQ' hml
        go_wp2_with fail
        refine HSY.out.mono ?_
        rintro e w2 ⟨rfl, hF2⟩
        have hF3 := RfP.go HSK.out.1 HSK.out.2 hF2
        have HF3 := Lib.hid hF3
        clear hF2 hF3
        go_wp2
        go_ret
        exact ⟨rfl, HF3.out⟩

theorem bgrow {a b c : World} {row : Option Nat} (h : Below a.heap.size a b) (k : b.grownBy c row) (hr : ∀ q, row = some q → a.heap.size ≤ q) : Below a.heap.size a c :=
  ⟨k.os.trans h.os, k.tape.trans h.tape, k.output.trans h.output, Nat.le_trans h.size k.size, fun i hi => (k.block i (Nat.lt_of_lt_of_le hi h.size) (fun e => by have := hr i e.symm; omega)).trans (h.block i hi)⟩
/-- The ways seen of a block. -/
def seenOf (since : Since) (i : Nat) (t : ByteArray) : List ByteArray := since.foldl (fun acc p => if p.1 = (i : Int) then wayOf p.2 acc else acc) [t]
theorem seen_next (since : Since) (i : Nat) (t : ByteArray) (k : Nat) (p : Int × ByteArray) (hp : since[k]? = some p) : seenOf (since.take (k + 1)) i t = if p.1 = (i : Int) then wayOf p.2 (seenOf (since.take k) i t) else seenOf (since.take k) i t := by
  unfold seenOf
  rw [List.take_add_one, hp, List.foldl_append]; rfl
theorem seen_length (since : Since) (i : Nat) (t : ByteArray) : ∀ k, (seenOf (since.take k) i t).length ≤ k + 1 ∧ 0 < (seenOf (since.take k) i t).length
  | 0 => by unfold seenOf; simp
  | k + 1 => by
    have ih := seen_length since i t k
    cases hp : since[k]? with
    | none =>
      have e : since.take (k + 1) = since.take k := by rw [List.take_add_one, hp]; simp
      rw [e]; omega
    | some p =>
      rw [seen_next since i t k p hp]
      split
      · unfold wayOf
        split
        · omega
        · simp; omega
      · omega
theorem take_any (acc : List ByteArray) (d : ByteArray) (j : Nat) (u : ByteArray) (hu : acc[j]? = some u) : has d (acc.take (j + 1)) = (has d (acc.take j) || decide (u = d)) := by
  unfold has
  rw [List.take_add_one, hu, List.any_append]; simp

set_option maxHeartbeats 8000000 in
set_option maxRecDepth 100000 in
theorem rways_yes (h : Rf w R Q now lasts since vN vL vS gN gL) (hQ : ∀ k, Q k → k < w.heap.size) (i : Nat) (hi : i < now.length) (hl : lasts.length = now.length) (hs : since.length ≤ 100000) (t : ByteArray) (ht : lasts[i]? = some t) :
    Calls Try.prog 34 #[.pointer (some ⟨R, 0, none⟩), .int .i64 (i : Nat)] w fun e w' => e = .returned (.int .i64 (seenOf since i t).length) ∧ Below w.heap.size w w' := by
  obtain ⟨c0, c1, c2⟩ := h.cells
  obtain ⟨cN, hvN, _, _⟩ := h.n.shape
  obtain ⟨cL, hvL, _, _⟩ := h.l.shape
  obtain ⟨aS, cS, hvS, hcS, hcS2, hsc⟩ := h.sshape
  have ct := h.l.cell ht
  rw [hvN] at c0
  rw [hvL] at c1
  rw [hvS] at c2
  obtain ⟨nn, hnn⟩ : ∃ x, x = now.length := ⟨_, rfl⟩
  obtain ⟨nl, hnl⟩ : ∃ x, x = lasts.length := ⟨_, rfl⟩
  obtain ⟨ns, hns⟩ : ∃ x, x = since.length := ⟨_, rfl⟩
  rw [← hnn] at c0 hi hl
  rw [← hnl] at c1 hl
  rw [← hns] at c2 hcS hs
  have HNS := Lib.hid (And.intro hns hsc)
  have d0 : decide ((i : Int) < 0) = false := decide_eq_false (by omega)
  have d1 : decide ((nn : Int) ≤ (i : Int)) = false := decide_eq_false (by omega)
  have d2 : ¬ (nn : Int) ≤ (i : Int) := by omega
  have j0 : (0 : Int) ≤ (i : Int) := by omega
  have j1 : (i : Int) < (nl : Int) := by omega
  obtain ⟨i0, hi0, hz0, hz1, hz2⟩ := info_parts str_info
  have hRlt := hQ R h.qr
  have HR : Hid (∀ wx, Below w.heap.size w wx → wx.cell? ⟨R, 2, none⟩ = some (.slice aS ns cS)) := Lib.hid (fun wx hb => by rw [hb.cell (p := ⟨R, 2, none⟩) hRlt]; exact c2)
  have HC : Hid (∀ p v, w.cell? p = some v → ∀ wx, Below w.heap.size w wx → wx.cell? p = some v) := Lib.hid (fun p v hp wx hb => by rw [hb.cell (World.block_lt_of_cell? w p hp)]; exact hp)
  have hnew := Own.new w t
  have HNEW := Lib.hid hnew
  clear h hvN hvL hvS ht hnn hnl hns hsc hl hQ hnew
  go_enter Try.func34, Try.ntmps34
  go_wp2
  go_loopw [5, 6] (fun x5 x6 wr => ∃ (k : Nat) (v : Value) (g : Nat), k ≤ ns ∧ x6 = .int .i64 k ∧ v = x5 ∧ Own wr v g (seenOf (since.take k) i t) ∧ w.heap.size ≤ g ∧ Below w.heap.size w wr) (fun _ x _ => ns - (intOf x).toNat)
  case atStart => exact ⟨0, _, w.heap.size, Nat.zero_le _, rfl, rfl, HNEW.out, Nat.le_refl _, ba (br _) _⟩
  case round =>
    obtain ⟨k, v, g, hk, rfl, rfl, hO, hg, hbel⟩ := hrel
    have cR := HR.out wr hbel
    obtain ⟨acc, hacc⟩ : ∃ acc, acc = seenOf (since.take k) i t := ⟨_, rfl⟩
    have hal := seen_length since i t k
    rw [← hacc] at hO hal
    by_cases hlt : k < ns
    · have dlt : decide ((k : Int) < (ns : Int)) = true := decide_eq_true (by omega)
      have ilt : ((k : Int) < (ns : Int)) = True := eq_true (by omega)
      obtain ⟨p, hp⟩ : ∃ p, since[k]? = some p := ⟨_, List.getElem?_eq_getElem (by rw [← HNS.out.1]; exact hlt)⟩
      obtain ⟨gs, rfl, hp0, hp1⟩ := HNS.out.2 k p hp
      have hp0' := HC.out _ _ hp0 wr hbel
      have e2 : k * 2 = 2 * k := Nat.mul_comm _ _
      have hnext := seen_next since i t k p hp
      rw [← hacc] at hnext
      have HP1 := Lib.hid hp1
      obtain ⟨o, ho⟩ : ∃ o, o = 2 * k := ⟨_, rfl⟩
      rw [← ho] at hp0' HP1 e2
      obtain ⟨pb, pd⟩ := p
      dsimp only at hp0' HP1 hnext
      have HNX := Lib.hid hnext
      clear hp hp0 hp1 ho hnext hacc
      by_cases h1 : pb = (i : Int)
      · subst h1
        obtain ⟨cv, hv, hcv, hcv2⟩ := hO.shape
        have hp1' := HC.out _ _ HP1.out wr hbel
        obtain ⟨na, hna⟩ : ∃ x, x = acc.length := ⟨_, rfl⟩
        have hvv : v = .slice (some ⟨g, 0, none⟩) na cv := by rw [hv, hna]
        have HNA := Lib.hid (And.intro hna hO)
        have ha1 : na ≤ 100001 := by omega
        rw [← hna] at hcv
        clear hv hO hna hal
        subst hvv
        obtain ⟨wo, rfl⟩ : ∃ wo : World, wo = wr := ⟨_, rfl⟩
        go_wp2
        go_loopw [7, 8] (fun x7 x8 wq => ∃ j : Nat, j ≤ na ∧ x8 = .int .i64 j ∧ x7 = .bool (has pd (acc.take j)) ∧ Drawn0 wo wq) (fun _ x _ => na - (intOf x).toNat)
        case atStart => exact ⟨0, Nat.zero_le _, rfl, rfl, Drawn0.refl _⟩
        case round =>
          obtain ⟨j, hj, rfl, rfl, ⟨nd, rfl⟩⟩ := hrel
          by_cases hjl : j < na
          · have djt : decide ((j : Int) < (na : Int)) = true := decide_eq_true (by omega)
            have ijt : ((j : Int) < (na : Int)) = True := eq_true (by omega)
            obtain ⟨u, hu⟩ : ∃ u, acc[j]? = some u := ⟨_, List.getElem?_eq_getElem (by rw [← HNA.out.1]; exact hjl)⟩
            have cu := HNA.out.2.cell hu
            have hta := take_any acc pd j u hu
            have HTA := Lib.hid hta
            have m0 : (0 : Int) ≤ (j : Int) := by omega
            have m1 : (j : Int) < (na : Int) := by omega
            have m2 : (0 : Int) ≤ (k : Int) := by omega
            have m3 : (k : Int) < (ns : Int) := by omega
            clear hu hta
            by_cases he : u = pd
            · have hbb : has pd (acc.take (j + 1)) = true := by rw [HTA.out, decide_eq_true he, Bool.or_true]
              have HBB := Lib.hid hbb
              subst he
              have r1 : (u.toList == u.toList) = true := beq_self_eq_true _
              clear hbb
              go_upto_region 12 with fail
              go_quiet (fail)
              go_wp2
              go_roundw
              case measure => simp [intOf]; omega
              case rel => exact ⟨j + 1, by omega, by go_num, by rw [HBB.out], ⟨_, rfl⟩⟩
            · have hbb : has pd (acc.take (j + 1)) = has pd (acc.take j) := by rw [HTA.out, decide_eq_false he, Bool.or_false]
              have HBB := Lib.hid hbb
              have r1 : (u.toList == pd.toList) = false := beq_eq_false_iff_ne.2 (fun e => he ((toList_iff _ _).1 e))
              have r2 : ¬ u.toList = pd.toList := fun e => he ((toList_iff _ _).1 e)
              clear hbb he
              go_upto_region 12 with fail
              go_quiet (fail)
              go_wp2
              go_roundw
              case measure => simp [intOf]; omega
              case rel => exact ⟨j + 1, by omega, by go_num, by rw [HBB.out], ⟨_, rfl⟩⟩
          · obtain rfl : j = na := by omega
            have djt : decide ((j : Int) < (j : Int)) = false := decide_eq_false (by omega)
            have hall : has pd (acc.take j) = has pd acc := by rw [HNA.out.1, List.take_of_length_le (Nat.le_refl _)]
            cases hb : has pd acc with
            | true =>
              have hw : wayOf pd acc = acc := by unfold wayOf; rw [hb, if_pos rfl]
              rw [hb] at hall
              have HW := Lib.hid hw
              rw [hall]
              clear hw hb hall
              go_wp2
              go_roundw
              case measure => simp [intOf]; omega
              case rel => exact ⟨k + 1, _, g, by omega, by go_num, rfl, by have e := HNX.out; simp only [if_true] at e; rw [e, HW.out]; exact HNA.out.2.same rfl, hg, bd hbel nd⟩
            | false =>
              have hw : wayOf pd acc = acc ++ [pd] := by unfold wayOf; rw [hb]; rfl
              rw [hb] at hall
              have HW := Lib.hid hw
              rw [hall]
              have hown := HNA.out.2.1
              rw [← HNA.out.1] at hown
              have hown1 : (wo.drewN nd).ownsRow 0 9 1 (.slice (some ⟨g, 0, none⟩) j cv) j (acc.map Value.string) := own_same hown (fun _ _ => rfl)
              have m2 : (0 : Int) ≤ (k : Int) := by omega
              have m3 : (k : Int) < (ns : Int) := by omega
              clear hw hb hall hown
              go_wp2_with (at_builtin; refine wpList_append_own_at _ rfl (.tmp 68) (.tmp 77) 32 rfl 0 9 i0 (.string ⟨#[]⟩) 1 16 Try.underlying32 hi0 hz0 hz1 hz2 rfl (by decide) (.slice (some ⟨g, 0, none⟩) j cv) j (acc.map Value.string) rfl (hown1.alloc _) ⟨wo.heap.size, 0, none⟩ 1 1 [.string pd] rfl rfl ?x1 ?x2 ?x3 ?x4 ?x5 ?_)
              case x1 => intro y z hz; cases y with | zero => simp at hz; subst hz; exact (Blk.new (wo.drewN nd) #[.string pd] 9).cell 0 | succ y => simp at hz
              case x2 => intro y hy; simp at hy; subst hy; rfl
              case x3 => unfold maxLen; omega
              case x4 => omega
              case x5 => omega
              intro v' w2 hown3 hgrow hnil hat
              obtain ⟨q', cap', hvq⟩ := own_succ hown3
              subst hvq
              have hq2 : w.heap.size ≤ q' := by
                rcases hat with e | e
                · simp [Value.ownBlock] at e; omega
                · simp [Value.ownBlock] at e; have := hbel.size; omega
              have hO3 : Own w2 (.slice (some ⟨q', 0, none⟩) (j + 1) cap') q' (acc ++ [pd]) := ⟨by rw [List.length_append, ← HNA.out.1, List.map_append]; exact hown3, rfl⟩
              have hb3 : Below w.heap.size w w2 := bgrow (ba (bd hbel nd) _) hgrow (fun q hq => by simp [Value.ownBlock] at hq; omega)
              have H3 := Lib.hid (And.intro hO3 hb3)
              clear hown3 hgrow hnil hat hO3 hb3 hown1
              go_wp2
              go_roundw
              case measure => simp [intOf]; omega
              case rel => exact ⟨k + 1, _, q', by omega, by go_num, rfl, by have e := HNX.out; simp only [if_true] at e; rw [e, HW.out]; exact H3.out.1, hq2, H3.out.2⟩
      · have r1 : (pb == (i : Int)) = false := beq_eq_false_iff_ne.2 h1
        have r2 : (pb != (i : Int)) = true := bne_iff_ne.2 h1
        have H1 := Lib.hid h1
        go_wp2
        go_roundw
        case measure => simp [intOf]; omega
        case rel => exact ⟨k + 1, v, g, by omega, by go_num, rfl, by rw [HNX.out, if_neg H1.out]; exact hO, hg, hbel⟩
    · obtain rfl : k = ns := by omega
      have dlt : decide ((k : Int) < (k : Int)) = false := decide_eq_false (by omega)
      have hfin : seenOf since i t = acc := by rw [hacc, List.take_of_length_le (by rw [HNS.out.1]; exact Nat.le_refl _)]
      obtain ⟨cv, hv, hcv, hcv2⟩ := hO.shape
      have HFI := Lib.hid hfin
      subst hv
      clear hfin hacc hO
      go_wp2
      go_ret
      exact ⟨by rw [HFI.out]; rfl, hbel⟩
end
end Go.Proofs.Ytahdhkhgokggbaa.Judge
