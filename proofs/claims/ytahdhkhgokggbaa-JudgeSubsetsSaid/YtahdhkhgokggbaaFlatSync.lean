/- The judge's Sync, Fits, Settle, New: walked. -/
import Derived.Test.YtahdhkhgokggbaaFlatWrites
import Derived.StillTailTactics
namespace Go.Proofs.Ytahdhkhgokggbaa.Judge
open Go.RowKit Go.Proofs.Ytahdhkhgokggbaa.Mem
open Go.Proofs.YtahdhkhgokggbaaW.PrintWords hiding bt
set_option linter.unusedVariables false
set_option linter.unusedSimpArgs false

/-- The first k blocks last as they are now. -/
def upto (st : St) (k : Nat) : St := (st.take k).map (fun x => (x.1, [x.1])) ++ st.drop k
theorem upto_zero (st : St) : upto st 0 = st := by unfold upto; simp
theorem upto_length (st : St) (k : Nat) : (upto st k).length = st.length := by unfold upto; simp; omega
theorem upto_at (st : St) (k : Nat) : (upto st k)[k]? = st[k]? := by
  unfold upto
  by_cases h : k < st.length
  · rw [List.getElem?_append_right (by simp; omega)]
    simp [Nat.min_eq_left (Nat.le_of_lt h)]
  · rw [List.getElem?_eq_none (by simp; omega), List.getElem?_eq_none (by omega)]
theorem upto_next (st : St) (k : Nat) (x : ByteArray × List ByteArray) (hx : st[k]? = some x) : put (upto st k) k (x.1, [x.1]) = upto st (k + 1) := by
  have hk := (List.getElem?_eq_some_iff.1 hx).1
  unfold put
  rw [if_pos (by rw [upto_length]; exact hk)]
  unfold upto
  have e : st.drop k = x :: st.drop (k + 1) := by
    rw [List.drop_eq_getElem_cons hk]
    rw [List.getElem?_eq_getElem hk] at hx
    rw [Option.some.inj hx]
  rw [e, List.set_append_right _ _ (by simp; omega)]
  have e2 : k - ((st.take k).map (fun x => (x.1, [x.1]))).length = 0 := by simp; omega
  rw [e2, List.set_cons_zero, List.take_add_one, hx, List.map_append]
  simp

section
variable {w : World} {F B : Nat} {P : Nat → Prop} {n : Nat} {st : St} {C : Array Value} {v : Nat → Value} {g : Nat → Nat}
set_option maxHeartbeats 4000000 in
set_option maxRecDepth 100000 in
theorem sync_calls (h : Fl w F B P n st C v g) (hP : ∀ k, P k → k < w.heap.size) (hn : n ≤ 1000000) (hfull : st.length = n) :
    Calls Try.prog 18 #[.pointer (some ⟨F, 0, none⟩)] w fun e w' => e = .returned (.tuple #[]) ∧ FlP w w' F B P n (upto st n) := by
  have HB := Lib.hid (blocks_calls h hn)
  have HH := Lib.hid (And.intro h (And.intro hP hfull))
  clear h hP hfull
  go_enter Try.func18, Try.ntmps18
  go_wp2_with fail
  refine HB.out.mono ?_
  rintro e w1 ⟨rfl, ⟨nd, rfl⟩⟩
  go_wp2
  go_loopw [5] (fun i wr => ∃ k : Nat, k ≤ n ∧ i = .int .i64 k ∧ FlP w wr F B P n (upto st k)) (fun i _ => n - (intOf i).toNat)
  case atStart => exact ⟨0, Nat.zero_le _, rfl, by rw [upto_zero]; exact HH.out.1.flp nd⟩
  case round =>
    obtain ⟨k, hk, rfl, ⟨P', C', v', g', hsub, hfl, hkeep⟩⟩ := hrel
    by_cases hlt : k < n
    · have dlt : decide ((k : Int) < (n : Int)) = true := decide_eq_true (by omega)
      have ilt : ((k : Int) < (n : Int)) = True := eq_true (by omega)
      obtain ⟨x, hx⟩ : ∃ x, st[k]? = some x := ⟨_, List.getElem?_eq_getElem (by have := HH.out.2.2; omega)⟩
      have hxk : (upto st k)[k]? = some x := by rw [upto_at]; exact hx
      have hP' : ∀ i, P' i → i < wr.heap.size := fun i hi => by
        rcases hsub i hi with q | q
        · exact Nat.lt_of_lt_of_le (HH.out.2.1 i q) hkeep.size
        · exact q.2
      have hnext := upto_next st k x hx
      have HL := Lib.hid (fun nd => lasts_calls (hfl.drewN nd) hP' (by rw [upto_length]; have := HH.out.2.2; omega) hlt x.1)
      rw [hnext] at HL
      have cF := hfl.small hn
      obtain ⟨c0, _⟩ := hfl.two hxk
      have HSK := Lib.hid (And.intro hsub hkeep)
      have e2 : k * 2 = 2 * k := Nat.mul_comm _ _
      obtain ⟨o, ho⟩ : ∃ o, o = 2 * k := ⟨_, rfl⟩
      rw [← ho] at HL c0 e2
      have j0 : (0 : Int) ≤ (k : Int) := by omega
      have j1 : (k : Int) < (n : Int) := by omega
      clear hx hxk hP' hnext hsub hfl hkeep ho
      go_upto_region 3 with fail
      go_still_tail 14, (by kernel_rfl)
      go_wp2_with fail
      refine (HL.out 1).mono ?_
      rintro e w2 ⟨rfl, hF2⟩
      have hF3 := FlP.go HSK.out.1 HSK.out.2 (FlP.drawn 1 hF2)
      clear hF2
      go_wp2
      go_roundw
      case measure => simp [intOf]; omega
      case rel => exact ⟨k + 1, by omega, by go_num, hF3⟩
    · obtain rfl : k = n := by omega
      have dlt : decide ((k : Int) < (k : Int)) = false := decide_eq_false (by omega)
      have HFP := Lib.hid (show FlP w wr F B P k (upto st k) from ⟨P', C', v', g', hsub, hfl, hkeep⟩)
      clear hsub hfl hkeep
      go_wp2
      go_end0
      exact ⟨rfl, HFP.out⟩

def okAt (st : St) (all : List ByteArray) (i : Nat) : Bool := has (all.getD i ⟨#[]⟩) (st.getD i (⟨#[]⟩, [])).2
/-- The first block that mayn't be so. -/
def firstBad (st : St) (all : List ByteArray) (n : Nat) : Option Nat := (List.range n).find? fun i => !okAt st all i
def fitI (st : St) (all : List ByteArray) (n : Nat) : Int := if all.length = n then (match firstBad st all n with | some i => (i : Int) | none => n) else 0
def fitB (st : St) (all : List ByteArray) (n : Nat) : Bool := decide (all.length = n) && (firstBad st all n).isNone
theorem bad_some {st : St} {all : List ByteArray} {n k : Nat} (hk : k < n) (h : okAt st all k = false) (hlt : ∀ j < k, okAt st all j = true) : firstBad st all n = some k := by
  unfold firstBad
  rw [List.find?_range_eq_some]
  refine ⟨by rw [h]; rfl, List.mem_range.2 hk, fun j hj => by rw [hlt j hj]; rfl⟩
theorem bad_none {st : St} {all : List ByteArray} {n : Nat} (h : ∀ j < n, okAt st all j = true) : firstBad st all n = none := by
  unfold firstBad
  rw [List.find?_eq_none]
  intro j hj
  rw [h j (List.mem_range.1 hj)]; decide
theorem okAt_eq {st : St} {all : List ByteArray} {k : Nat} {s : ByteArray} {x : ByteArray × List ByteArray} (hs : all[k]? = some s) (hx : st[k]? = some x) : okAt st all k = has s x.2 := by
  unfold okAt; rw [List.getD_eq_getElem?_getD, hs, List.getD_eq_getElem?_getD, hx]; rfl

set_option maxHeartbeats 4000000 in
set_option maxRecDepth 100000 in
theorem fits_calls (h : Fl w F B P n st C v g) (hn : n ≤ 1000000) (hfull : st.length = n) (a : Option Addr) (c : Nat) (all : List ByteArray) (hall : all.length ≤ 9223372036854775807) (hS : Strs w a all) :
    Calls Try.prog 21 #[.pointer (some ⟨F, 0, none⟩), .slice a all.length c] w fun e w' => e = .returned (.tuple #[.int .i64 (fitI st all n), .bool (fitB st all n)]) ∧ Drawn0 w w' := by
  have cF := h.small hn
  obtain ⟨m, hm⟩ : ∃ m, m = all.length := ⟨_, rfl⟩
  have HH := Lib.hid (And.intro h (And.intro hfull (And.intro hS hm)))
  rw [← hm] at hall ⊢
  by_cases hmn : m = n
  · clear h hfull hS hm
    subst hmn
    go_enter Try.func21, Try.ntmps21
    go_wp2
    go_loopw [22] (fun i wr => ∃ k : Nat, k ≤ m ∧ i = .int .i64 k ∧ Hid (∀ j < k, okAt st all j = true) ∧ Drawn0 w wr) (fun i _ => m - (intOf i).toNat)
    case atStart => exact ⟨0, Nat.zero_le _, rfl, Lib.hid (fun j hj => by omega), Drawn0.refl _⟩
    case round =>
      obtain ⟨k, hk, rfl, HA, ⟨nd, rfl⟩⟩ := hrel
      by_cases hlt : k < m
      · have dlt : decide ((k : Int) < (m : Int)) = true := decide_eq_true (by omega)
        have ilt : ((k : Int) < (m : Int)) = True := eq_true (by omega)
        obtain ⟨s, hs⟩ : ∃ s, all[k]? = some s := ⟨_, List.getElem?_eq_getElem (by have := HH.out.2.2.2; omega)⟩
        obtain ⟨x, hx⟩ : ∃ x, st[k]? = some x := ⟨_, List.getElem?_eq_getElem (by have := HH.out.2.1; omega)⟩
        obtain ⟨y, rfl, hc⟩ := HH.out.2.2.1 k s hs
        have hok := okAt_eq hs hx
        have HM := Lib.hid (fun nd => bmay_calls (HH.out.1.drewN nd) hx s)
        obtain ⟨b, hb⟩ : ∃ b, b = has s x.2 := ⟨_, rfl⟩
        rw [← hb] at hok HM
        have e2 : k * 2 = 2 * k := Nat.mul_comm _ _
        obtain ⟨o, ho⟩ : ∃ o, o = 2 * k := ⟨_, rfl⟩
        rw [← ho] at HM e2
        have j0 : (0 : Int) ≤ (k : Int) := by omega
        have j1 : (k : Int) < (m : Int) := by omega
        have HOK := Lib.hid hok
        clear hs hx hok hb ho
        go_wp2_with fail
        refine (HM.out _).mono ?_
        rintro e w2 ⟨rfl, ⟨nd2, rfl⟩⟩
        cases b with
        | true =>
          go_wp2
          go_roundw
          case measure => simp [intOf]; omega
          case rel => exact ⟨k + 1, by omega, by go_num, Lib.hid (fun j hj => by
            by_cases e : j = k
            · rw [e]; exact HOK.out
            · exact HA.out j (by omega)), ⟨nd + nd2, by simp [World.drewN, Nat.add_assoc]⟩⟩
        | false =>
          have hbad := bad_some hlt HOK.out HA.out
          have hI : fitI st all m = k := by unfold fitI; rw [if_pos (by have := HH.out.2.2.2; omega), hbad]
          have hB : fitB st all m = false := by unfold fitB; rw [hbad]; simp
          have HR := Lib.hid (And.intro hI hB)
          clear hbad hI hB
          go_wp2
          go_ret2
          exact ⟨by rw [HR.out.1, HR.out.2]; rfl, ⟨nd + nd2, by simp [World.drewN, Nat.add_assoc]⟩⟩
      · obtain rfl : k = m := by omega
        have dlt : decide ((k : Int) < (k : Int)) = false := decide_eq_false (by omega)
        have hbad := bad_none HA.out
        have hI : fitI st all k = k := by unfold fitI; rw [if_pos (by have := HH.out.2.2.2; omega), hbad]
        have hB : fitB st all k = true := by unfold fitB; rw [hbad, decide_eq_true (by have := HH.out.2.2.2; omega)]; rfl
        have HR := Lib.hid (And.intro hI hB)
        clear hbad hI hB
        go_wp2
        go_ret2
        exact ⟨by rw [HR.out.1, HR.out.2]; rfl, ⟨_, rfl⟩⟩
  · have q0 : ((m : Int) == (n : Int)) = false := beq_eq_false_iff_ne.2 (by omega)
    have q1 : ((m : Int) != (n : Int)) = true := bne_iff_ne.2 (by omega)
    have hI : fitI st all n = 0 := by unfold fitI; rw [if_neg (by omega)]
    have hB : fitB st all n = false := by unfold fitB; rw [decide_eq_false (by omega)]; rfl
    rw [hI, hB]
    clear h hfull hS hm hI hB
    go_enter Try.func21, Try.ntmps21
    go_wp2
    go_ret2
    exact ⟨rfl, Drawn0.refl _⟩
theorem fits_nil (x : Value) (w : World) :
    Calls Try.prog 21 #[.pointer none, x] w fun e w' => e = .returned (.tuple #[.int .i64 0, .bool false]) ∧ Drawn0 w w' := by
  go_enter Try.func21, Try.ntmps21
  go_wp2
  go_ret2
  exact ⟨rfl, Drawn0.refl _⟩

/-- The first k blocks are as all says. -/
def settled (st : St) (all : List ByteArray) (k : Nat) : St := (all.take k).map (fun s => (s, [s])) ++ st.drop k
theorem settled_zero (st : St) (all : List ByteArray) : settled st all 0 = st := by unfold settled; simp
theorem settled_length (st : St) (all : List ByteArray) (k : Nat) (h : all.length = st.length) : (settled st all k).length = st.length := by unfold settled; simp; omega
theorem settled_next (st : St) (all : List ByteArray) (h : all.length = st.length) (k : Nat) (s : ByteArray) (hs : all[k]? = some s) : put (settled st all k) k (s, [s]) = settled st all (k + 1) := by
  have hk := (List.getElem?_eq_some_iff.1 hs).1
  unfold put
  rw [if_pos (by rw [settled_length _ _ _ h]; omega)]
  unfold settled
  have e : st.drop k = st[k]'(by omega) :: st.drop (k + 1) := List.drop_eq_getElem_cons (by omega)
  rw [e, List.set_append_right _ _ (by simp; omega)]
  have e2 : k - ((all.take k).map (fun s => (s, [s]))).length = 0 := by simp; omega
  rw [e2, List.set_cons_zero, List.take_add_one, hs, List.map_append]
  simp
def settleE (st : St) (all : List ByteArray) (n : Nat) : Int := if fitB st all n = true then 0 else 4
def settleS (st : St) (all : List ByteArray) (n : Nat) : St := if fitB st all n = true then settled st all n else st

set_option maxHeartbeats 4000000 in
set_option maxRecDepth 100000 in
theorem settle_calls (h : Fl w F B P n st C v g) (hP : ∀ k, P k → k < w.heap.size) (hn : n ≤ 1000000) (hfull : st.length = n) (a : Option Addr) (c : Nat) (all : List ByteArray) (hall : all.length ≤ 9223372036854775807) (hS : Strs w a all) (hap : ∀ x, a = some x → ¬ P x.block) :
    Calls Try.prog 35 #[.pointer (some ⟨F, 0, none⟩), .slice a all.length c] w fun e w' => e = .returned (.int .i64 (settleE st all n)) ∧ FlP w w' F B P n (settleS st all n) := by
  have HFi := Lib.hid (fits_calls h hn hfull a c all hall hS)
  obtain ⟨i0, hi0⟩ : ∃ i, i = fitI st all n := ⟨_, rfl⟩
  rw [← hi0] at HFi
  cases hb : fitB st all n with
  | false =>
    have hE : settleE st all n = 4 := by unfold settleE; rw [hb]; rfl
    have hT : settleS st all n = st := by unfold settleS; rw [hb]; rfl
    rw [hE, hT]
    rw [hb] at HFi
    have HF := Lib.hid h
    obtain ⟨m, hm⟩ : ∃ m, m = all.length := ⟨_, rfl⟩
    rw [← hm] at HFi ⊢
    clear hE hT hb h hP hfull hS hap hi0 hm hall
    go_enter Try.func35, Try.ntmps35
    go_wp2_with fail
    refine HFi.out.mono ?_
    rintro e w1 ⟨rfl, ⟨nd, rfl⟩⟩
    go_wp2
    go_ret
    exact ⟨rfl, HF.out.flp nd⟩
  | true =>
    have hE : settleE st all n = 0 := by unfold settleE; rw [hb]; rfl
    have hT : settleS st all n = settled st all n := by unfold settleS; rw [hb]; rfl
    have hmn : all.length = n := by
      unfold fitB at hb
      rw [Bool.and_eq_true] at hb
      exact of_decide_eq_true hb.1
    rw [hE, hT]
    rw [hb, hmn] at HFi
    rw [hmn]
    have HH := Lib.hid (And.intro h (And.intro hP (And.intro hfull (And.intro hS (And.intro hap hmn)))))
    clear hE hT hb h hP hfull hS hap hi0 hall hmn
    go_enter Try.func35, Try.ntmps35
    go_wp2_with fail
    refine HFi.out.mono ?_
    rintro e w1 ⟨rfl, ⟨nd, rfl⟩⟩
    go_wp2
    go_loopw [21] (fun i wr => ∃ k : Nat, k ≤ n ∧ i = .int .i64 k ∧ FlP w wr F B P n (settled st all k)) (fun i _ => n - (intOf i).toNat)
    case atStart => exact ⟨0, Nat.zero_le _, rfl, by rw [settled_zero]; exact HH.out.1.flp nd⟩
    case round =>
      obtain ⟨k, hk, rfl, ⟨P', C', v', g', hsub, hfl, hkeep⟩⟩ := hrel
      by_cases hlt : k < n
      · have dlt : decide ((k : Int) < (n : Int)) = true := decide_eq_true (by omega)
        have ilt : ((k : Int) < (n : Int)) = True := eq_true (by omega)
        obtain ⟨s, hs⟩ : ∃ s, all[k]? = some s := ⟨_, List.getElem?_eq_getElem (by have := HH.out.2.2.2.2.2; omega)⟩
        obtain ⟨y, rfl, hc⟩ := HH.out.2.2.2.1 k s hs
        have hc' : wr.cell? (y.add k) = some (.string s) := by
          have hyb : (y.add k).block = y.block := by unfold Addr.add; split <;> rfl
          rw [World.cell?_of_block (w := w) (w' := wr) (by rw [hyb]; exact hkeep.block _ (by have := World.block_lt_of_cell? w _ hc; rw [hyb] at this; exact this) (HH.out.2.2.2.2.1 y rfl))]; exact hc
        have hP' : ∀ i, P' i → i < wr.heap.size := fun i hi => by
          rcases hsub i hi with q | q
          · exact Nat.lt_of_lt_of_le (HH.out.2.1 i q) hkeep.size
          · exact q.2
        have hlen : all.length = st.length := by have := HH.out.2.2.1; have := HH.out.2.2.2.2.2; omega
        have hnext := settled_next st all hlen k s hs
        have HL := Lib.hid (lasts_calls hfl hP' (by rw [settled_length _ _ _ hlen]; have := HH.out.2.2.1; omega) hlt s)
        rw [hnext] at HL
        have cF := hfl.small hn
        have HSK := Lib.hid (And.intro hsub hkeep)
        have e2 : k * 2 = 2 * k := Nat.mul_comm _ _
        obtain ⟨o, ho⟩ : ∃ o, o = 2 * k := ⟨_, rfl⟩
        rw [← ho] at HL e2
        have j0 : (0 : Int) ≤ (k : Int) := by omega
        have j1 : (k : Int) < (n : Int) := by omega
        clear hs hP' hnext hsub hfl hkeep ho hlen hc
        go_wp2_with fail
        refine HL.out.mono ?_
        rintro e w2 ⟨rfl, hF2⟩
        have hF3 := FlP.go HSK.out.1 HSK.out.2 hF2
        clear hF2
        go_wp2
        go_roundw
        case measure => simp [intOf]; omega
        case rel => exact ⟨k + 1, by omega, by go_num, hF3⟩
      · obtain rfl : k = n := by omega
        have dlt : decide ((k : Int) < (k : Int)) = false := decide_eq_false (by omega)
        have HFP := Lib.hid (show FlP w wr F B P k (settled st all k) from ⟨P', C', v', g', hsub, hfl, hkeep⟩)
        clear hsub hfl hkeep
        go_wp2
        go_ret
        exact ⟨rfl, HFP.out⟩
theorem settle_nil (x : Value) (w : World) :
    Calls Try.prog 35 #[.pointer none, x] w fun e w' => e = .returned (.int .i64 1) ∧ Drawn0 w w' := by
  go_enter Try.func35, Try.ntmps35
  go_wp2
  go_ret
  exact ⟨rfl, Drawn0.refl _⟩
theorem sync_nil (w : World) :
    Calls Try.prog 18 #[.pointer none] w fun e w' => e = .returned (.tuple #[]) ∧ Drawn0 w w' := by
  have HB := Lib.hid (blocks_nil w)
  go_enter Try.func18, Try.ntmps18
  go_wp2_with fail
  refine HB.out.mono ?_
  rintro e w1 ⟨rfl, ⟨nd, rfl⟩⟩
  go_wp2
  go_loopw [5] (fun i wr => i = .int .i64 0 ∧ wr = w.drewN nd) (fun i _ => 0)
  case atStart => exact ⟨rfl, rfl⟩
  case round =>
    obtain ⟨rfl, rfl⟩ := hrel
    go_wp2
    go_end0
    exact ⟨rfl, ⟨_, rfl⟩⟩
theorem put_nil (i : Int) (s : ByteArray) (told : Bool) (w : World) :
    Calls Try.prog 20 #[.pointer none, .int .i64 i, .string s, .bool told] w fun e w' => e = .returned (.int .i64 1) ∧ Drawn0 w w' := by
  have HA := Lib.hid (at_nil i w)
  go_enter Try.func20, Try.ntmps20
  go_wp2_with fail
  refine HA.out.mono ?_
  rintro e w1 ⟨rfl, ⟨nd, rfl⟩⟩
  go_wp2
  go_ret
  exact ⟨rfl, ⟨_, rfl⟩⟩
end
end Go.Proofs.Ytahdhkhgokggbaa.Judge
