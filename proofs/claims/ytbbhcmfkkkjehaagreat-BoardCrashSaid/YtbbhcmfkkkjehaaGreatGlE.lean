/- Missing, walked: the program's and the document's. -/
import Derived.Test.YtbbhcmfkkkjehaaGreatGlB
import Derived.Test.YtbbhcmfkkkjehaaGreatGlD
import Derived.Lib.SliceRun
namespace Go.Proofs.YtbbhcmfkkkjehaaGreat.Lab
open Go.RowKit Go.Proofs.YtbbhcmfkkkjehaaGreat.Mem Go.Proofs.YtbbhcmfkkkjehaaGreat.Sep
open Go.Proofs.YtbbhcmfkkkjehaaGreatW.PrintWords hiding bt
set_option linter.unusedVariables false
set_option linter.unusedSimpArgs false

def miss (L : List Int) : Nat := (L.filter fun x => decide (x ≠ 0)).length
theorem miss_le (L : List Int) : miss L ≤ L.length := List.length_filter_le _ _
theorem miss_take {L : List Int} {k : Nat} {x : Int} (h : L[k]? = some x) : miss (L.take (k + 1)) = miss (L.take k) + if x = 0 then 0 else 1 := by
  unfold miss
  rw [List.take_add_one, h, List.filter_append, List.length_append]
  by_cases e : x = 0 <;> simp [e]
def Lb.missing (l : Lb) : Int := if l.good then (miss l.st : Nat) else 0
theorem missing_bad {l : Lb} (h : l.good = false) : l.missing = 0 := by unfold Lb.missing; rw [h]; rfl
theorem missing_good {l : Lb} (h : l.good = true) : l.missing = (miss l.st : Nat) := by unfold Lb.missing; rw [h]; rfl

set_option maxHeartbeats 8000000 in
set_option maxRecDepth 100000 in
theorem missing_calls (m t ep : Int) (st mr : List Int) (a1 a2 : Option Addr) (n1 n2 c1 c2 : Nat) (hn1 : st.length = n1) (hn2 : mr.length = n2) (hs1 : n1 ≤ 9223372036854775807) (hs2 : n2 ≤ 9223372036854775807) (w : World) (r1 : Rw w a1 st) (r2 : Rw w a2 mr) :
    Calls Tryz.prog 37 #[lval ⟨m, t, ep, st, mr⟩ a1 n1 c1 a2 n2 c2] w fun e w' => e = .returned (.int .i64 (Lb.mk m t ep st mr).missing) ∧ Below w.heap.size w w' := by
  show Calls Tryz.prog 37 #[.agg #[.int .i64 m, .int .i64 t, .int .i64 ep, .slice a1 n1 c1, .slice a2 n2 c2]] w _
  have hA := ba (br w) (.cells #[.int .i64 m, .int .i64 t, .int .i64 ep, .slice a1 n1 c1, .slice a2 n2 c2] 43)
  have HG := Lib.hid (good_calls m t ep st mr a1 a2 n1 n2 c1 c2 hn1 hn2 hs1 hs2 (w.alloc (.cells #[.int .i64 m, .int .i64 t, .int .i64 ep, .slice a1 n1 c1, .slice a2 n2 c2] 43)) (r1.step hA) (r2.step hA))
  have HA := Lib.hid hA
  have HR := Lib.hid r1
  have HN := Lib.hid hn1
  clear hA r1 r2 hn1 hn2 hs1 hs2
  cases hg : (Lb.mk m t ep st mr).good with
  | false =>
    have HV := Lib.hid (missing_bad hg)
    rw [hg] at HG
    clear hg
    go_enter Tryz.func37, Tryz.ntmps37
    go_wp2_with fail
    refine HG.out.mono ?_
    rintro e w' ⟨rfl, hbel⟩
    have HB := Lib.hid (bt HA.out hbel)
    clear hbel
    go_wp2
    go_ret
    exact ⟨by rw [HV.out]; first | done | rfl, by first | exact HB.out | exact bd1 HB.out | exact bd HB.out _⟩
  | true =>
    have HV := Lib.hid (missing_good hg)
    rw [hg] at HG
    have ok := (Lb.good_iff _).1 hg
    have o1 : ((st.length : Nat) : Int) = m := ok.st
    have o2 : m ≤ 32 := ok.m32
    have n32 : n1 ≤ 32 := by have := HN.out; omega
    clear hg ok o1 o2
    go_enter Tryz.func37, Tryz.ntmps37
    go_wp2_with fail
    refine HG.out.mono ?_
    rintro e w' ⟨rfl, hbel⟩
    have hb : Blk w' w.heap.size #[.int .i64 m, .int .i64 t, .int .i64 ep, .slice a1 n1 c1, .slice a2 n2 c2] 43 := (Blk.new w _ _).below hbel (by simp)
    have HB := Lib.hid (And.intro hb (bt HA.out hbel))
    have e3 : w'.cell? ⟨w.heap.size, 3, none⟩ = some (.slice a1 n1 c1) := hb.cell 3
    clear hb hbel
    go_wp2
    clear e3
    go_loopw [3, 11] (fun c i wr => ∃ k : Nat, k ≤ n1 ∧ i = .int .i64 k ∧ c = .int .i64 (miss (st.take k) : Nat) ∧ Blk wr w.heap.size #[.int .i64 m, .int .i64 t, .int .i64 ep, .slice a1 n1 c1, .slice a2 n2 c2] 43 ∧ Below w.heap.size w wr) (fun _ i _ => n1 - (intOf i).toNat)
    case atStart => exact ⟨0, Nat.zero_le _, rfl, by simp [miss], HB.out.1, HB.out.2⟩
    case round =>
      clear HB
      obtain ⟨k, hk, rfl, hc, hb, hB⟩ := hrel
      obtain ⟨mc, hmc⟩ : ∃ mc, mc = miss (st.take k) := ⟨_, rfl⟩
      rw [← hmc] at hc
      subst hc
      have hm32 : mc ≤ 32 := by rw [hmc]; have := miss_le (st.take k); rw [List.length_take] at this; omega
      have HM := Lib.hid hmc
      have e3 : wr.cell? ⟨w.heap.size, 3, none⟩ = some (.slice a1 n1 c1) := hb.cell 3
      have HW := Lib.hid (And.intro hb hB)
      have HR3 := Lib.hid (Rw.cells HR.out (fun p v h => by rw [hB.cell (World.block_lt_of_cell? _ _ h)]; exact h))
      clear hmc hb hB
      by_cases hlt : k < n1
      · have dlt : decide ((k : Int) < (n1 : Int)) = true := decide_eq_true (by omega)
        have i0 : (0 : Int) ≤ (k : Int) := by omega
        have i1 : (k : Int) < (n1 : Int) := by omega
        obtain ⟨x, hx⟩ : ∃ x, st[k]? = some x := ⟨_, List.getElem?_eq_getElem (by rw [HN.out]; exact hlt)⟩
        obtain ⟨p, hp, cx⟩ := HR3.out k x hx
        subst hp
        have HT := Lib.hid (miss_take hx)
        clear hx hlt
        by_cases h0 : x = 0
        · subst h0
          go_wp2
          go_roundw
          case measure => simp [intOf]; omega
          case rel => exact ⟨k + 1, by omega, by go_num, by rw [HT.out, ← HM.out]; first | done | rfl | simp, HW.out.1, by first | exact HW.out.2 | exact bd1 HW.out.2 | exact bd HW.out.2 _⟩
        · have b0 : (x == 0) = false := beq_eq_false_iff_ne.2 h0
          have b1 : (x != 0) = true := bne_iff_ne.2 h0
          rw [if_neg h0] at HT
          clear h0
          go_wp2
          go_roundw
          case measure => simp [intOf]; omega
          case rel => exact ⟨k + 1, by omega, by go_num, by rw [HT.out, ← HM.out]; first | done | rfl | simp, HW.out.1, by first | exact HW.out.2 | exact bd1 HW.out.2 | exact bd HW.out.2 _⟩
      · obtain rfl : k = n1 := by omega
        have dlt : decide ((k : Int) < (k : Int)) = false := decide_eq_false (by omega)
        have HT : Hid (mc = miss st) := Lib.hid (by rw [HM.out, List.take_of_length_le (by rw [HN.out]; exact Nat.le_refl _)])
        go_wp2
        go_ret
        exact ⟨by rw [HV.out]; show _ = Ending.returned (Value.int .i64 ((miss st : Nat) : Int)); rw [← HT.out]; first | done | rfl, by first | exact HW.out.2 | exact bd1 HW.out.2 | exact bd HW.out.2 _⟩
end Go.Proofs.YtbbhcmfkkkjehaaGreat.Lab
/- Labels handed over: every call of a label, by what its value says; what the label's law fixes, walked. -/
namespace Go.Proofs.YtbbhcmfkkkjehaaGreat.Lab
open Go.RowKit Go.Proofs.YtbbhcmfkkkjehaaGreat.Mem Go.Proofs.YtbbhcmfkkkjehaaGreat.Sep Go.Proofs.YtbbhcmfkkkjehaaGreat.Num Go.Proofs.YtbbhcmfkkkjehaaGreat.B8 Go.Proofs.YtbbhcmfkkkjehaaGreat.CrcS
open Go.Proofs.YtbbhcmfkkkjehaaGreatW.PrintWords hiding bt
open Go.Proofs.YtbbhcmfkkkjehaaGreat.App
set_option linter.unusedVariables false
set_option linter.unusedSimpArgs false

section
variable {w w' : World} {v u : Value} {l : Lb}
theorem Got.step (h : Got w v l) (k : Below w.heap.size w w') : Got w' v l := by
  obtain ⟨a1, n1, c1, a2, n2, c2, h1, h2, h3, h4, h5, h6, h7⟩ := h
  exact ⟨a1, n1, c1, a2, n2, c2, h1, h2, h3, h4, h5, h6.step k, h7.step k⟩
theorem put_got (h : Got w v l) : Calls Tryz.prog 75 #[v] w fun e w' => e = .returned (.tuple #[.string (bts l.put), .int .i64 l.putE]) ∧ Below w.heap.size w w' := by
  obtain ⟨m, t, ep, st, mr⟩ := l
  obtain ⟨a1, n1, c1, a2, n2, c2, rfl, h2, h3, h4, h5, h6, h7⟩ := h
  exact put_calls m t ep st mr a1 a2 n1 n2 c1 c2 h2 h3 (by omega) (by omega) w h6 h7
theorem rput_got (h : Got w v l) : Calls Tryz.prog 80 #[v] w fun e w' => e = .returned (.tuple #[.string (bts l.put), .int .i64 l.putE]) ∧ Below w.heap.size w w' := by
  obtain ⟨m, t, ep, st, mr⟩ := l
  obtain ⟨a1, n1, c1, a2, n2, c2, rfl, h2, h3, h4, h5, h6, h7⟩ := h
  exact rput_calls m t ep st mr a1 a2 n1 n2 c1 c2 h2 h3 (by omega) (by omega) w h6 h7
theorem good_got (h : Got w v l) : Calls Tryz.prog 22 #[v] w fun e w' => e = .returned (.bool l.good) ∧ Below w.heap.size w w' := by
  obtain ⟨m, t, ep, st, mr⟩ := l
  obtain ⟨a1, n1, c1, a2, n2, c2, rfl, h2, h3, h4, h5, h6, h7⟩ := h
  exact good_calls m t ep st mr a1 a2 n1 n2 c1 c2 h2 h3 (by omega) (by omega) w h6 h7
theorem rgood_got (h : Got w v l) : Calls Tryz.prog 128 #[v] w fun e w' => e = .returned (.bool l.good) ∧ Below w.heap.size w w' := by
  obtain ⟨m, t, ep, st, mr⟩ := l
  obtain ⟨a1, n1, c1, a2, n2, c2, rfl, h2, h3, h4, h5, h6, h7⟩ := h
  exact rgood_calls m t ep st mr a1 a2 n1 n2 c1 c2 h2 h3 (by omega) (by omega) w h6 h7
theorem missing_got (h : Got w v l) : Calls Tryz.prog 37 #[v] w fun e w' => e = .returned (.int .i64 l.missing) ∧ Below w.heap.size w w' := by
  obtain ⟨m, t, ep, st, mr⟩ := l
  obtain ⟨a1, n1, c1, a2, n2, c2, rfl, h2, h3, h4, h5, h6, h7⟩ := h
  exact missing_calls m t ep st mr a1 a2 n1 n2 c1 c2 h2 h3 (by omega) (by omega) w h6 h7
/-- A label's five cells. -/
theorem Got.five (h : Got w v l) : ∃ a1 n1 c1 a2 n2 c2, v = .agg #[.int .i64 l.m, .int .i64 l.t, .int .i64 l.ep, .slice a1 n1 c1, .slice a2 n2 c2] := by
  obtain ⟨a1, n1, c1, a2, n2, c2, h1, _⟩ := h
  exact ⟨a1, n1, c1, a2, n2, c2, h1⟩
end
/-! What the document fixes. -/
attribute [local irreducible] vn bts big num CrcA.sum by8 Lb.sec Lab.get Lab.getE
end Go.Proofs.YtbbhcmfkkkjehaaGreat.Lab
/- slices.Clone of a label's rows, walked. -/
namespace Go.Proofs.YtbbhcmfkkkjehaaGreat.Lab
open Go.RowKit Go.Proofs.YtbbhcmfkkkjehaaGreat.Mem Go.Proofs.YtbbhcmfkkkjehaaGreat.Sep Go.Proofs.YtbbhcmfkkkjehaaGreat.App
open Go.Proofs.YtbbhcmfkkkjehaaGreatW.PrintWords hiding bt
set_option linter.unusedVariables false
set_option linter.unusedSimpArgs false
set_option maxHeartbeats 4000000 in
set_option maxRecDepth 100000 in
theorem cloneS_calls (L : List Int) (a : Option Addr) (n c : Nat) (hn : L.length = n) (hb : n ≤ 100000) (w : World) (hr : Rw w a L) :
    Calls Tryz.prog 112 #[.slice a n c] w fun e w' => ∃ v', e = .returned v' ∧ w'.ownsRow w.heap.size 46 1 v' n (il L) ∧ Below w.heap.size w w' := by
  cases a with
  | none =>
    have h0 : L = [] := by
      cases L with
      | nil => rfl
      | cons x r => obtain ⟨p, hp, _⟩ := hr 0 x rfl; cases hp
    subst h0
    obtain rfl : n = 0 := hn.symm
    have q22 : (binOp .eql 41 (.slice none 0 c) (.slice none 0 0)).run Tryz.prog w = .ok (.bool true) w := Lib.run_eql_slice_nil w 41 46 none 0 c 0 0 (by kernel_rfl)
    go_enter Tryz.func112, Tryz.ntmps112
    go_wp2
    go_ret
    exact ⟨_, rfl, World.ownsRow_nil _ _ _ _, br _⟩
  | some p =>
    have q22 : (binOp .eql 41 (.slice (some p) n c) (.slice none 0 0)).run Tryz.prog w = .ok (.bool false) w := Lib.run_eql_slice_nil w 41 46 (some p) n c 0 0 (by kernel_rfl)
    obtain ⟨i0, hi0, hz0, hz1, hz2⟩ := App.info_parts (P := Tryz.prog) (t := 46) (z := .int .i64 0) (s := 1) (b := 8) (by kernel_rfl)
    have HR := Lib.hid (And.intro hr hn)
    clear hr hn
    go_enter Tryz.func112, Tryz.ntmps112
    go_wp2_with (at_builtin; refine wpList_append_own _ rfl (.tmp 5) (.tmp 6) 41 rfl w.heap.size 46 i0 (.int .i64 0) 1 8 (by kernel_rfl) hi0 hz0 hz1 hz2 rfl (by decide) _ _ _ rfl (World.ownsRow_made w #[] 0 (Nat.le_refl _) (Nat.zero_le _) rfl) p n c (il L) rfl ?qc1 ?qc2 ?qc3 ?qc4 ?qc5 ?qc6 ?_)
    case qc1 => rw [Nat.mul_one]; unfold il; rw [List.length_map]; exact HR.out.2
    case qc2 =>
      intro j u hj
      unfold il at hj
      rw [List.getElem?_map] at hj
      cases hx : L[j]? with
      | none => rw [hx] at hj; cases hj
      | some x =>
        rw [hx] at hj
        obtain ⟨p', hp', hc⟩ := HR.out.1 j x hx
        cases hp'
        rw [(ba (br w) _).cell (World.block_lt_of_cell? _ _ hc), hc]
        exact hj
    case qc3 => intro u hu; unfold il at hu; obtain ⟨x, _, rfl⟩ := List.mem_map.1 hu; rfl
    case qc4 => unfold maxLen; omega
    case qc5 => omega
    case qc6 => simp
    intro v' w1 hown hgrow hnil
    go_wp2
    go_ret
    refine ⟨v', rfl, by simpa using hown, ?_⟩
    exact ((Below.refl _ w).alloc (Nat.le_refl _) _).grown hgrow (by simp) (by intro k hk; simp [Value.ownBlock] at hk; omega)
set_option maxHeartbeats 4000000 in
set_option maxRecDepth 100000 in
theorem cloneI_calls (L : List Int) (a : Option Addr) (n c : Nat) (hn : L.length = n) (hb : n ≤ 100000) (w : World) (hr : Rw w a L) :
    Calls Tryz.prog 113 #[.slice a n c] w fun e w' => ∃ v', e = .returned v' ∧ w'.ownsRow w.heap.size 3 1 v' n (il L) ∧ Below w.heap.size w w' := by
  cases a with
  | none =>
    have h0 : L = [] := by
      cases L with
      | nil => rfl
      | cons x r => obtain ⟨p, hp, _⟩ := hr 0 x rfl; cases hp
    subst h0
    obtain rfl : n = 0 := hn.symm
    have q22 : (binOp .eql 31 (.slice none 0 c) (.slice none 0 0)).run Tryz.prog w = .ok (.bool true) w := Lib.run_eql_slice_nil w 31 3 none 0 c 0 0 (by kernel_rfl)
    go_enter Tryz.func113, Tryz.ntmps113
    go_wp2
    go_ret
    exact ⟨_, rfl, World.ownsRow_nil _ _ _ _, br _⟩
  | some p =>
    have q22 : (binOp .eql 31 (.slice (some p) n c) (.slice none 0 0)).run Tryz.prog w = .ok (.bool false) w := Lib.run_eql_slice_nil w 31 3 (some p) n c 0 0 (by kernel_rfl)
    obtain ⟨i0, hi0, hz0, hz1, hz2⟩ := App.info_parts (P := Tryz.prog) (t := 3) (z := .int .i64 0) (s := 1) (b := 8) (by kernel_rfl)
    have HR := Lib.hid (And.intro hr hn)
    clear hr hn
    go_enter Tryz.func113, Tryz.ntmps113
    go_wp2_with (at_builtin; refine wpList_append_own _ rfl (.tmp 5) (.tmp 6) 31 rfl w.heap.size 3 i0 (.int .i64 0) 1 8 (by kernel_rfl) hi0 hz0 hz1 hz2 rfl (by decide) _ _ _ rfl (World.ownsRow_made w #[] 0 (Nat.le_refl _) (Nat.zero_le _) rfl) p n c (il L) rfl ?qc1 ?qc2 ?qc3 ?qc4 ?qc5 ?qc6 ?_)
    case qc1 => rw [Nat.mul_one]; unfold il; rw [List.length_map]; exact HR.out.2
    case qc2 =>
      intro j u hj
      unfold il at hj
      rw [List.getElem?_map] at hj
      cases hx : L[j]? with
      | none => rw [hx] at hj; cases hj
      | some x =>
        rw [hx] at hj
        obtain ⟨p', hp', hc⟩ := HR.out.1 j x hx
        cases hp'
        rw [(ba (br w) _).cell (World.block_lt_of_cell? _ _ hc), hc]
        exact hj
    case qc3 => intro u hu; unfold il at hu; obtain ⟨x, _, rfl⟩ := List.mem_map.1 hu; rfl
    case qc4 => unfold maxLen; omega
    case qc5 => omega
    case qc6 => simp
    intro v' w1 hown hgrow hnil
    go_wp2
    go_ret
    refine ⟨v', rfl, by simpa using hown, ?_⟩
    exact ((Below.refl _ w).alloc (Nat.le_refl _) _).grown hgrow (by simp) (by intro k hk; simp [Value.ownBlock] at hk; omega)
theorem Sp.cameRow {w0 w w' : World} {L : List Asn} {T : TypeId} {v : Value} {n : Nat} {xs : List Value} (h : Sp w0 L w) (ho : w'.ownsRow w.heap.size T 1 v n xs) (hB : Below w.heap.size w w') : Sp w0 (row T 1 v n xs :: L) w' := by
  have hsize := h.size
  have h4 := (h.step hB).bel
  have hlt := ho.lt
  obtain ⟨⟨R, h1, h2⟩, h3⟩ := h
  have h5 := h1.lt
  refine ⟨⟨fun k => v.ownBlock = some k ∨ R k, ⟨fun k => v.ownBlock = some k, R, ⟨⟨ho.1, ho.2.elim Or.inl (fun ⟨g, cap, cur, hv, hg, r⟩ => Or.inr ⟨g, cap, cur, hv, Nat.zero_le _, r⟩)⟩, fun k => Iff.rfl⟩, h1.same (fun k hk => hB.block k (h5 k hk)), fun k hk hr => by have := h5 k hr; have := (hlt k hk).1; omega, fun k => Iff.rfl⟩, fun k hk => by
    rcases hk with hk | hk
    · have := (hlt k hk).1; omega
    · exact h2 k hk⟩, h4⟩
theorem copy_ret {W : World} {b : Nat} {v0 v1 v2 v3 v4 : Value} {T : TypeId} (hb : Blk W b #[v0, v1, v2, v3, v4] T) {Q : Ending → World → Prop} (x0 x1 : Value) (r : List Value) (h : Q (.returned (.agg #[v0, v1, v2, v3, v4])) W) :
    bodyPost Tryz.prog Tryz.f59 Q Exit.ret { tmps := (x0 :: x1 :: .pointer (some ⟨b, 0, none⟩) :: r).toArray, defers := [] } W := by
  obtain ⟨⟨c0, c1, c2, c3, c4⟩, _⟩ := five hb
  exact bodyPost_ret (v := .agg #[v0, v1, v2, v3, v4]) (by simp [results, Tryz.results59, go_sem, *]) rfl h
set_option maxHeartbeats 8000000 in
set_option maxRecDepth 100000 in
theorem copy_calls (l : Lb) (a1 : Option Addr) (n1 c1 : Nat) (a2 : Option Addr) (n2 c2 : Nat) (w : World) (h : Got w (.agg #[.int .i64 l.m, .int .i64 l.t, .int .i64 l.ep, .slice a1 n1 c1, .slice a2 n2 c2]) l) :
    Calls Tryz.prog 59 #[.agg #[.int .i64 l.m, .int .i64 l.t, .int .i64 l.ep, .slice a1 n1 c1, .slice a2 n2 c2]] w fun e w' => ∃ s1 s2 : Value, e = .returned (.agg #[.int .i64 l.m, .int .i64 l.t, .int .i64 l.ep, s1, s2]) ∧ Sp w [row 46 1 s1 n1 (il l.st), row 3 1 s2 n2 (il l.mr)] w' := by
  obtain ⟨b1, k1, d1, b2, k2, d2, he, h2, h3, h4, h5, h6, h7⟩ := h
  have e1 : a1 = b1 ∧ n1 = k1 ∧ a2 = b2 ∧ n2 = k2 := by
    unfold lval at he
    injection he with he
    injection he with he
    injection he with _ he
    injection he with _ he
    injection he with _ he
    injection he with he1 he
    injection he with he2 _
    injection he1 with p1 p2 _
    injection he2 with q1 q2 _
    exact ⟨p1, p2, q1, q2⟩
  obtain ⟨rfl, rfl, rfl, rfl⟩ := e1
  have s0 := Sp.newAt (Sp.start w) #[.int .i64 l.m, .int .i64 l.t, .int .i64 l.ep, .slice a1 n1 c1, .slice a2 n2 c2] 43 w.heap.size rfl
  have s1 := (Sp.newAt s0 #[.int .i64 0, .int .i64 0, .int .i64 0, .slice none 0 0, .slice none 0 0] 43 (w.heap.size + 1) (by simp)).front 1 rfl
  have HX := Lib.hid s1
  have HR := Lib.hid (And.intro h6 h7)
  have HL := Lib.hid (And.intro h2 h3)
  clear s0 s1 h6 h7 h2 h3 he
  go_enter Tryz.func59, Tryz.ntmps59
  go_upto_region 1 with fail
  have h1 := HX.out
  obtain ⟨w1, hw1⟩ : ∃ w1, w1 = (w.alloc (.cells #[.int .i64 l.m, .int .i64 l.t, .int .i64 l.ep, .slice a1 n1 c1, .slice a2 n2 c2] 43)).alloc (.cells #[.int .i64 0, .int .i64 0, .int .i64 0, .slice none 0 0, .slice none 0 0] 43) := ⟨_, rfl⟩
  obtain ⟨r, hr⟩ : ∃ r, r = w.heap.size + 1 := ⟨_, rfl⟩
  obtain ⟨q, hq⟩ : ∃ q, q = w.heap.size := ⟨_, rfl⟩
  have hRR := And.intro (HR.out.1.step (ba (ba (br w) (.cells #[.int .i64 l.m, .int .i64 l.t, .int .i64 l.ep, .slice a1 n1 c1, .slice a2 n2 c2] 43)) (.cells #[.int .i64 0, .int .i64 0, .int .i64 0, .slice none 0 0, .slice none 0 0] 43))) (HR.out.2.step (ba (ba (br w) (.cells #[.int .i64 l.m, .int .i64 l.t, .int .i64 l.ep, .slice a1 n1 c1, .slice a2 n2 c2] 43)) (.cells #[.int .i64 0, .int .i64 0, .int .i64 0, .slice none 0 0, .slice none 0 0] 43)))
  rw [← hw1] at hRR
  rw [← hr, ← hw1, ← hq]
  have h1 : Sp w [blk q #[.int .i64 l.m, .int .i64 l.t, .int .i64 l.ep, .slice a1 n1 c1, .slice a2 n2 c2] 43, blk r #[.int .i64 0, .int .i64 0, .int .i64 0, .slice none 0 0, .slice none 0 0] 43] w1 := by rw [hq, hr, hw1]; exact h1
  have hbq := h1.blk (b := q) (C := #[.int .i64 l.m, .int .i64 l.t, .int .i64 l.ep, .slice a1 n1 c1, .slice a2 n2 c2]) (T := 43) (List.mem_cons_self ..)
  have k3 : w1.cell? ⟨q, 3, none⟩ = some (.slice a1 n1 c1) := hbq.cell 3
  have k4 : w1.cell? ⟨q, 4, none⟩ = some (.slice a2 n2 c2) := hbq.cell 4
  have HX := Lib.hid h1.drew
  have HRR := Lib.hid (And.intro (hRR.1.step (bd1 (br _))) (hRR.2.step (bd1 (br _))))
  clear h1 hw1 hr hq hRR hbq
  go_cut [] (fun wx => ∃ s1 s2 : Value, Sp w [blk q #[.int .i64 l.m, .int .i64 l.t, .int .i64 l.ep, s1, s2] 43, row 46 1 s1 n1 (il l.st), row 3 1 s2 n2 (il l.mr), blk r #[.int .i64 0, .int .i64 0, .int .i64 0, .slice none 0 0, .slice none 0 0] 43] wx)
  case first =>
    go_region_with (first
      | (go_at_call 112; refine (cloneS_calls l.st a1 n1 c1 HL.out.1 (by omega) _ HRR.out.1).mono ?_; rintro e w2 ⟨v', rfl, hown, hb⟩; obtain ⟨sa, sc, rfl, _, _⟩ := App.own_slice hown; have HRR := Lib.hid (And.intro (HRR.out.1.step hb) (HRR.out.2.step hb)); have HX := Lib.hid (Sp.cameRow HX.out hown hb); have hbq := HX.out.blk (b := q) (C := #[.int .i64 l.m, .int .i64 l.t, .int .i64 l.ep, .slice a1 n1 c1, .slice a2 n2 c2]) (T := 43) (by (first | exact List.mem_cons_self .. | exact List.mem_cons_of_mem _ (List.mem_cons_self ..) | exact List.mem_cons_of_mem _ (List.mem_cons_of_mem _ (List.mem_cons_self ..)))); have k3 : w2.cell? ⟨q, 3, none⟩ = some (.slice a1 n1 c1) := hbq.cell 3; have k4 : w2.cell? ⟨q, 4, none⟩ = some (.slice a2 n2 c2) := hbq.cell 4; have k5 : w2.frozen? ⟨q, 3, none⟩ = false := hbq.frozen 3; have k6 : w2.frozen? ⟨q, 4, none⟩ = false := hbq.frozen 4; clear hbq hb hown)
      | (go_at_call 113; refine (cloneI_calls l.mr a2 n2 c2 HL.out.2 (by omega) _ HRR.out.2).mono ?_; rintro e w2 ⟨v', rfl, hown, hb⟩; obtain ⟨sa, sc, rfl, _, _⟩ := App.own_slice hown; have HRR := Lib.hid (And.intro (HRR.out.1.step hb) (HRR.out.2.step hb)); have HX := Lib.hid (Sp.cameRow HX.out hown hb); have hbq := HX.out.blk (b := q) (C := #[.int .i64 l.m, .int .i64 l.t, .int .i64 l.ep, .slice a1 n1 c1, .slice a2 n2 c2]) (T := 43) (by (first | exact List.mem_cons_self .. | exact List.mem_cons_of_mem _ (List.mem_cons_self ..) | exact List.mem_cons_of_mem _ (List.mem_cons_of_mem _ (List.mem_cons_self ..)))); have k3 : w2.cell? ⟨q, 3, none⟩ = some (.slice a1 n1 c1) := hbq.cell 3; have k4 : w2.cell? ⟨q, 4, none⟩ = some (.slice a2 n2 c2) := hbq.cell 4; have k5 : w2.frozen? ⟨q, 3, none⟩ = false := hbq.frozen 3; have k6 : w2.frozen? ⟨q, 4, none⟩ = false := hbq.frozen 4; clear hbq hb hown))
    all_goals go_wp2
    all_goals go_meet
    all_goals (case rel =>
      first
        | exact ⟨_, _, ((HX.out.front 2 rfl).set 3 _).set 4 _⟩
        | exact ⟨_, _, (((HX.out.front 2 rfl).set 3 _).set 4 _).perm (List.Perm.cons _ (List.Perm.swap _ _ _))⟩)
  case rest =>
    obtain ⟨s1, s2, h⟩ := hcut
    obtain ⟨sa, sc, rfl, _, _⟩ := App.own_slice (h.row (v := s1) (n := n1) (T := 46) (List.mem_cons_of_mem _ (List.mem_cons_self ..)))
    obtain ⟨ma, mc, rfl, _, _⟩ := App.own_slice (h.row (v := s2) (n := n2) (T := 3) (List.mem_cons_of_mem _ (List.mem_cons_of_mem _ (List.mem_cons_self ..))))
    obtain ⟨⟨e0, e1, e2, e3, e4⟩, _⟩ := five (h.blk (b := q) (C := #[.int .i64 l.m, .int .i64 l.t, .int .i64 l.ep, .slice sa n1 sc, .slice ma n2 mc]) (T := 43) (List.mem_cons_self ..))
    obtain ⟨⟨r0, r1, r2, r3, r4⟩, y0, y1, y2, y3, y4⟩ := five (h.blk (b := r) (C := #[.int .i64 0, .int .i64 0, .int .i64 0, .slice none 0 0, .slice none 0 0]) (T := 43) (List.mem_cons_of_mem _ (List.mem_cons_of_mem _ (List.mem_cons_of_mem _ (List.mem_cons_self ..)))))
    have h2 := Sp.new5 (v0 := .int .i64 l.m) (v1 := .int .i64 l.t) (v2 := .int .i64 l.ep) (v3 := .slice sa n1 sc) (v4 := .slice ma n2 mc) (h.front 3 rfl)
    have H2 := Lib.hid h2
    clear h h2
    go_wp2
    refine copy_ret (H2.out.blk (List.mem_cons_self ..)) _ _ _ ⟨_, _, rfl, ?_⟩
    exact (H2.out.tail).tail
end Go.Proofs.YtbbhcmfkkkjehaaGreat.Lab
