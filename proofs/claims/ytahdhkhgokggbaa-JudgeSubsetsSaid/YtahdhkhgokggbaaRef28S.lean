/- The document's Flat: Sync, Fits, Settle; walked. -/
import Derived.Test.YtahdhkhgokggbaaRef28W
import Derived.StillTailTactics
namespace Go.Proofs.Ytahdhkhgokggbaa.Judge
open Go.RowKit Go.Proofs.Ytahdhkhgokggbaa.Mem
open Go.Proofs.YtahdhkhgokggbaaW.PrintWords hiding bt
set_option linter.unusedVariables false
set_option linter.unusedSimpArgs false

def mix (now lasts : List ByteArray) (k : Nat) : List ByteArray := now.take k ++ lasts.drop k
theorem mix_zero (now lasts : List ByteArray) : mix now lasts 0 = lasts := by unfold mix; simp
theorem mix_all (now lasts : List ByteArray) (h : lasts.length = now.length) : mix now lasts now.length = now := by unfold mix; rw [List.take_of_length_le (Nat.le_refl _), List.drop_eq_nil_of_le (by omega), List.append_nil]
theorem mix_length (now lasts : List ByteArray) (h : lasts.length = now.length) (k : Nat) : (mix now lasts k).length = now.length := by unfold mix; simp; omega
theorem mix_next (now lasts : List ByteArray) (h : lasts.length = now.length) (k : Nat) (s : ByteArray) (hs : now[k]? = some s) : (mix now lasts k).set k s = mix now lasts (k + 1) := by
  have hk := (List.getElem?_eq_some_iff.1 hs).1
  unfold mix
  have e : lasts.drop k = lasts[k]'(by omega) :: lasts.drop (k + 1) := List.drop_eq_getElem_cons (by omega)
  rw [e, List.set_append_right _ _ (by simp; omega)]
  have e2 : k - (now.take k).length = 0 := by simp; omega
  rw [e2, List.set_cons_zero, List.take_add_one, hs]
  simp

section
variable {w : World} {R : Nat} {Q : Nat → Prop} {now lasts : List ByteArray} {since : Since} {vN vL vS : Value} {gN gL : Nat}
theorem sub_bound {Q Q' : Nat → Prop} {w wr : World} (hQ : ∀ k, Q k → k < w.heap.size) (h : Sub Q Q' w wr) (hs : w.heap.size ≤ wr.heap.size) : ∀ k, Q' k → k < wr.heap.size := fun k hk => by
  rcases h k hk with q | q
  · exact Nat.lt_of_lt_of_le (hQ k q) hs
  · exact q.2
set_option maxHeartbeats 4000000 in
set_option maxRecDepth 100000 in
theorem rsync_calls (h : Rf w R Q now lasts since vN vL vS gN gL) (hQ : ∀ k, Q k → k < w.heap.size) (hl : lasts.length = now.length) (hn : now.length ≤ 1000000) :
    Calls Try.prog 76 #[.pointer (some ⟨R, 0, none⟩)] w fun e w' => e = .returned (.tuple #[]) ∧ RfP w w' R Q now now [] := by
  have HH := Lib.hid (And.intro h (And.intro hQ (And.intro hl hn)))
  obtain ⟨n, hnn⟩ : ∃ n, n = now.length := ⟨_, rfl⟩
  have hn2 : n ≤ 1000000 := by omega
  have HN := Lib.hid hnn
  clear h hQ hl hn hnn
  go_enter Try.func76, Try.ntmps76
  go_wp2
  go_loopw [2] (fun i wr => ∃ k : Nat, k ≤ n ∧ i = .int .i64 k ∧ RfP w wr R Q now (mix now lasts k) since) (fun i _ => n - (intOf i).toNat)
  case atStart => exact ⟨0, Nat.zero_le _, rfl, by rw [mix_zero]; exact HH.out.1.rfp 0⟩
  case round =>
    obtain ⟨k, hk, rfl, ⟨Q', vN', vL', vS', gN', gL', hsub, hrf, hkeep⟩⟩ := hrel
    obtain ⟨c0, c1, c2⟩ := hrf.cells
    obtain ⟨cN, hvN, hcN, hcN2⟩ := hrf.n.shape
    obtain ⟨cL, hvL, hcL, hcL2⟩ := hrf.l.shape
    rw [hvN, ← HN.out] at c0
    rw [hvL, mix_length _ _ HH.out.2.2.1, ← HN.out] at c1
    rw [← HN.out] at hcN
    rw [mix_length _ _ HH.out.2.2.1, ← HN.out] at hcL
    by_cases hlt : k < n
    · have dlt : decide ((k : Int) < (n : Int)) = true := decide_eq_true (by omega)
      have ilt : ((k : Int) < (n : Int)) = True := eq_true (by omega)
      obtain ⟨s, hs⟩ : ∃ s, now[k]? = some s := ⟨_, List.getElem?_eq_getElem (by rw [← HN.out]; exact hlt)⟩
      have cs := hrf.n.cell hs
      obtain ⟨t, ht⟩ : ∃ t, (mix now lasts k)[k]? = some t := ⟨_, List.getElem?_eq_getElem (by rw [mix_length _ _ HH.out.2.2.1, ← HN.out]; exact hlt)⟩
      have ct := hrf.l.cell ht
      have ft := hrf.l.frozen k
      have hnext := (hrf.drewN 1).setLast k s
      rw [mix_next _ _ HH.out.2.2.1 k s hs] at hnext
      have hkeep2 : Keep Q w ((wr.drewN 1).setCell ⟨gL', k, none⟩ (.string s)) := by
        refine hkeep.call (((Keep.refl Q' wr).drewN 1).setCell (p := ⟨gL', k, none⟩) (.inl hrf.ql) _) (fun i hi => ?_)
        rcases hsub i hi with q | q
        · exact .inl q
        · exact .inr q.1
      have hsub2 : Sub Q Q' w ((wr.drewN 1).setCell ⟨gL', k, none⟩ (.string s)) := fun i hi => by
        rcases hsub i hi with q | q
        · exact .inl q
        · exact .inr ⟨q.1, by simp; exact q.2⟩
      have HP : Hid (RfP w ((wr.drewN 1).setCell ⟨gL', k, none⟩ (.string s)) R Q now (mix now lasts (k + 1)) since) := Lib.hid ⟨Q', _, _, _, _, _, hsub2, hnext, hkeep2⟩
      have j0 : (0 : Int) ≤ (k : Int) := by omega
      have j1 : (k : Int) < (n : Int) := by omega
      have e3 : wr.drew = wr.drewN 1 := rfl
      clear hs ht hnext hkeep2 hsub2 hsub hrf hkeep hvN hvL c2
      go_upto_region 3 with fail
      go_still_tail 13, (by kernel_rfl)
      go_wp2
      go_roundw
      case measure => simp [intOf]; omega
      case rel => exact ⟨k + 1, by omega, by go_num, HP.out⟩
    · obtain rfl : k = n := by omega
      have dlt : decide ((k : Int) < (k : Int)) = false := decide_eq_false (by omega)
      have hm : mix now lasts k = now := by rw [HN.out]; exact mix_all _ _ HH.out.2.2.1
      have hnone := hrf.setNone
      rw [hm] at hnone
      have hf2 := hrf.r.frozen 2
      have hkeep2 : Keep Q w (wr.setCell ⟨R, 2, none⟩ (.slice none 0 0)) := hkeep.setCell (p := ⟨R, 2, none⟩) (.inl HH.out.1.qr) _
      have hsub2 : Sub Q Q' w (wr.setCell ⟨R, 2, none⟩ (.slice none 0 0)) := fun i hi => by
        rcases hsub i hi with q | q
        · exact .inl q
        · exact .inr ⟨q.1, by simp; exact q.2⟩
      have HP : Hid (RfP w (wr.setCell ⟨R, 2, none⟩ (.slice none 0 0)) R Q now now []) := Lib.hid ⟨Q', _, _, _, _, _, hsub2, hnone, hkeep2⟩
      clear hm hnone hkeep2 hsub2 hsub hrf hkeep hvN hvL
      go_wp2
      go_end0
      exact ⟨rfl, HP.out⟩

def okR (lasts : List ByteArray) (since : Since) (all : List ByteArray) (i : Nat) : Bool := mayR lasts since i (all.getD i ⟨#[]⟩)
def firstBadR (lasts : List ByteArray) (since : Since) (all : List ByteArray) (n : Nat) : Option Nat := (List.range n).find? fun i => !okR lasts since all i
def fitIR (lasts : List ByteArray) (since : Since) (all : List ByteArray) (n : Nat) : Int := if all.length = n then (match firstBadR lasts since all n with | some i => (i : Int) | none => n) else 0
def fitBR (lasts : List ByteArray) (since : Since) (all : List ByteArray) (n : Nat) : Bool := decide (all.length = n) && (firstBadR lasts since all n).isNone
theorem badR_some {all : List ByteArray} {n k : Nat} (hk : k < n) (h : okR lasts since all k = false) (hlt : ∀ j < k, okR lasts since all j = true) : firstBadR lasts since all n = some k := by
  unfold firstBadR
  rw [List.find?_range_eq_some]
  refine ⟨by rw [h]; rfl, List.mem_range.2 hk, fun j hj => by rw [hlt j hj]; rfl⟩
theorem badR_none {all : List ByteArray} {n : Nat} (h : ∀ j < n, okR lasts since all j = true) : firstBadR lasts since all n = none := by
  unfold firstBadR
  rw [List.find?_eq_none]
  intro j hj
  rw [h j (List.mem_range.1 hj)]; decide

set_option maxHeartbeats 4000000 in
set_option maxRecDepth 100000 in
theorem rfits_calls (h : Rf w R Q now lasts since vN vL vS gN gL) (hl : lasts.length = now.length) (hn : now.length ≤ 1000000) (hsl : since.length ≤ 1000000) (a : Option Addr) (c : Nat) (all : List ByteArray) (hall : all.length ≤ 9223372036854775807) (hS : Strs w a all) :
    Calls Try.prog 78 #[.pointer (some ⟨R, 0, none⟩), .slice a all.length c] w fun e w' => e = .returned (.tuple #[.int .i64 (fitIR lasts since all now.length), .bool (fitBR lasts since all now.length)]) ∧ Drawn0 w w' := by
  obtain ⟨c0, _, _⟩ := h.cells
  obtain ⟨cN, hvN, hcN, hcN2⟩ := h.n.shape
  rw [hvN] at c0
  obtain ⟨m, hm⟩ : ∃ m, m = all.length := ⟨_, rfl⟩
  have HH := Lib.hid (And.intro h (And.intro hl (And.intro hS (And.intro hm hsl))))
  rw [← hm] at hall ⊢
  obtain ⟨n, hnn⟩ : ∃ n, n = now.length := ⟨_, rfl⟩
  rw [← hnn] at c0 hcN hn ⊢
  have HN := Lib.hid hnn
  by_cases hmn : m = n
  · clear h hl hS hm hvN hnn hsl
    subst hmn
    go_enter Try.func78, Try.ntmps78
    go_wp2
    go_loopw [6] (fun i wr => ∃ k : Nat, k ≤ m ∧ i = .int .i64 k ∧ Hid (∀ j < k, okR lasts since all j = true) ∧ Drawn0 w wr) (fun i _ => m - (intOf i).toNat)
    case atStart => exact ⟨0, Nat.zero_le _, rfl, Lib.hid (fun j hj => by omega), Drawn0.refl _⟩
    case round =>
      obtain ⟨k, hk, rfl, HA, ⟨nd, rfl⟩⟩ := hrel
      by_cases hlt : k < m
      · have dlt : decide ((k : Int) < (m : Int)) = true := decide_eq_true (by omega)
        have ilt : ((k : Int) < (m : Int)) = True := eq_true (by omega)
        obtain ⟨s, hs⟩ : ∃ s, all[k]? = some s := ⟨_, List.getElem?_eq_getElem (by have := HH.out.2.2.2.1; omega)⟩
        obtain ⟨y, rfl, hc⟩ := HH.out.2.2.1 k s hs
        have hok : okR lasts since all k = mayR lasts since k s := by unfold okR; rw [List.getD_eq_getElem?_getD, hs]; rfl
        have HM := Lib.hid (fun nd => rmay_yes (HH.out.1.drewN nd) k (by have := HN.out; omega) HH.out.2.1 HH.out.2.2.2.2 s)
        obtain ⟨b, hb⟩ : ∃ b, b = mayR lasts since k s := ⟨_, rfl⟩
        rw [← hb] at hok HM
        have j0 : (0 : Int) ≤ (k : Int) := by omega
        have j1 : (k : Int) < (m : Int) := by omega
        have HOK := Lib.hid hok
        clear hs hok hb
        go_wp2_with fail
        refine (HM.out _).mono ?_
        rintro e w2 ⟨rfl, ⟨nd2, rfl⟩⟩
        cases b with
        | true =>
          go_wp2
          go_roundw
          case measure => simp [intOf]; omega
          case rel => exact ⟨k + 1, by omega, by go_num, Lib.hid (fun j hj => by
            by_cases e : j = k
            · rw [e]; exact HOK.out
            · exact HA.out j (by omega)), ⟨nd + nd2, by simp [World.drewN, Nat.add_assoc]⟩⟩
        | false =>
          have hbad := badR_some hlt HOK.out HA.out
          have hI : fitIR lasts since all m = k := by unfold fitIR; rw [if_pos (by have := HH.out.2.2.2.1; omega), hbad]
          have hB : fitBR lasts since all m = false := by unfold fitBR; rw [hbad]; simp
          have HR := Lib.hid (And.intro hI hB)
          clear hbad hI hB
          go_wp2
          go_ret2
          exact ⟨by rw [HR.out.1, HR.out.2]; rfl, ⟨nd + nd2, by simp [World.drewN, Nat.add_assoc]⟩⟩
      · obtain rfl : k = m := by omega
        have dlt : decide ((k : Int) < (k : Int)) = false := decide_eq_false (by omega)
        have hbad := badR_none HA.out
        have hI : fitIR lasts since all k = k := by unfold fitIR; rw [if_pos (by have := HH.out.2.2.2.1; omega), hbad]
        have hB : fitBR lasts since all k = true := by unfold fitBR; rw [hbad, decide_eq_true (by have := HH.out.2.2.2.1; omega)]; rfl
        have HR := Lib.hid (And.intro hI hB)
        clear hbad hI hB
        go_wp2
        go_ret2
        exact ⟨by rw [HR.out.1, HR.out.2]; rfl, ⟨_, rfl⟩⟩
  · have q0 : ((m : Int) == (n : Int)) = false := beq_eq_false_iff_ne.2 (by omega)
    have q1 : ((m : Int) != (n : Int)) = true := bne_iff_ne.2 (by omega)
    have hI : fitIR lasts since all n = 0 := by unfold fitIR; rw [if_neg (by omega)]
    have hB : fitBR lasts since all n = false := by unfold fitBR; rw [decide_eq_false (by omega)]; rfl
    rw [hI, hB]
    clear h hl hS hm hI hB hvN hnn hsl
    go_enter Try.func78, Try.ntmps78
    go_wp2
    go_ret2
    exact ⟨rfl, Drawn0.refl _⟩
end
end Go.Proofs.Ytahdhkhgokggbaa.Judge
