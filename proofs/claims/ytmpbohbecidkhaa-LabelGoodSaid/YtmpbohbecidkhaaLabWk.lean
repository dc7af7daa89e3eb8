/- Labels handed over: every call of a label, by what its value says; what the label's law fixes, walked. -/
import Derived.Test.YtmpbohbecidkhaaLabNst
import Derived.Test.YtmpbohbecidkhaaLabW
import Derived.Test.YtmpbohbecidkhaaLabMiss
import Derived.Test.YtmpbohbecidkhaaLabSame
import Derived.Test.YtmpbohbecidkhaaLabNew
namespace Go.Proofs.Ytmpbohbecidkhaa.Lab
open Go.RowKit Go.Proofs.Ytmpbohbecidkhaa.Mem Go.Proofs.Ytmpbohbecidkhaa.Sep Go.Proofs.Ytmpbohbecidkhaa.Num Go.Proofs.Ytmpbohbecidkhaa.B8 Go.Proofs.Ytmpbohbecidkhaa.CrcS
open Go.Proofs.YtmpbohbecidkhaaW.PrintWords hiding bt
open Go.Proofs.Ytmpbohbecidkhaa.App
set_option linter.unusedVariables false
set_option linter.unusedSimpArgs false

section
variable {w w' : World} {v u : Value} {l : Lb}
theorem Got.step (h : Got w v l) (k : Below w.heap.size w w') : Got w' v l := by
  obtain ⟨a1, n1, c1, a2, n2, c2, h1, h2, h3, h4, h5, h6, h7⟩ := h
  exact ⟨a1, n1, c1, a2, n2, c2, h1, h2, h3, h4, h5, h6.step k, h7.step k⟩
theorem put_got (h : Got w v l) : Calls Try.prog 15 #[v] w fun e w' => e = .returned (.tuple #[.string (bts l.put), .int .i64 l.putE]) ∧ Below w.heap.size w w' := by
  obtain ⟨m, t, ep, st, mr⟩ := l
  obtain ⟨a1, n1, c1, a2, n2, c2, rfl, h2, h3, h4, h5, h6, h7⟩ := h
  exact put_calls m t ep st mr a1 a2 n1 n2 c1 c2 h2 h3 (by omega) (by omega) w h6 h7
theorem rput_got (h : Got w v l) : Calls Try.prog 16 #[v] w fun e w' => e = .returned (.tuple #[.string (bts l.put), .int .i64 l.putE]) ∧ Below w.heap.size w w' := by
  obtain ⟨m, t, ep, st, mr⟩ := l
  obtain ⟨a1, n1, c1, a2, n2, c2, rfl, h2, h3, h4, h5, h6, h7⟩ := h
  exact rput_calls m t ep st mr a1 a2 n1 n2 c1 c2 h2 h3 (by omega) (by omega) w h6 h7
theorem good_got (h : Got w v l) : Calls Try.prog 20 #[v] w fun e w' => e = .returned (.bool l.good) ∧ Below w.heap.size w w' := by
  obtain ⟨m, t, ep, st, mr⟩ := l
  obtain ⟨a1, n1, c1, a2, n2, c2, rfl, h2, h3, h4, h5, h6, h7⟩ := h
  exact good_calls m t ep st mr a1 a2 n1 n2 c1 c2 h2 h3 (by omega) (by omega) w h6 h7
theorem rgood_got (h : Got w v l) : Calls Try.prog 21 #[v] w fun e w' => e = .returned (.bool l.good) ∧ Below w.heap.size w w' := by
  obtain ⟨m, t, ep, st, mr⟩ := l
  obtain ⟨a1, n1, c1, a2, n2, c2, rfl, h2, h3, h4, h5, h6, h7⟩ := h
  exact rgood_calls m t ep st mr a1 a2 n1 n2 c1 c2 h2 h3 (by omega) (by omega) w h6 h7
theorem whole_got (h : Got w v l) (i k : Int) : Calls Try.prog 27 #[v, .int .i64 i, .int .i64 k] w fun e w' => e = .returned (.bool (l.whole i k)) ∧ Below w.heap.size w w' := by
  obtain ⟨m, t, ep, st, mr⟩ := l
  obtain ⟨a1, n1, c1, a2, n2, c2, rfl, h2, h3, h4, h5, h6, h7⟩ := h
  exact whole_calls m t ep st mr a1 a2 n1 n2 c1 c2 h2 h3 (by omega) (by omega) w h6 h7 i k
theorem rwhole_got (h : Got w v l) (i k : Int) : Calls Try.prog 28 #[v, .int .i64 i, .int .i64 k] w fun e w' => e = .returned (.bool (l.whole i k)) ∧ Below w.heap.size w w' := by
  obtain ⟨m, t, ep, st, mr⟩ := l
  obtain ⟨a1, n1, c1, a2, n2, c2, rfl, h2, h3, h4, h5, h6, h7⟩ := h
  exact rwhole_calls m t ep st mr a1 a2 n1 n2 c1 c2 h2 h3 (by omega) (by omega) w h6 h7 i k
theorem missing_got (h : Got w v l) : Calls Try.prog 29 #[v] w fun e w' => e = .returned (.int .i64 l.missing) ∧ Below w.heap.size w w' := by
  obtain ⟨m, t, ep, st, mr⟩ := l
  obtain ⟨a1, n1, c1, a2, n2, c2, rfl, h2, h3, h4, h5, h6, h7⟩ := h
  exact missing_calls m t ep st mr a1 a2 n1 n2 c1 c2 h2 h3 (by omega) (by omega) w h6 h7
theorem rmissing_got (h : Got w v l) : Calls Try.prog 30 #[v] w fun e w' => e = .returned (.int .i64 l.missing) ∧ Below w.heap.size w w' := by
  obtain ⟨m, t, ep, st, mr⟩ := l
  obtain ⟨a1, n1, c1, a2, n2, c2, rfl, h2, h3, h4, h5, h6, h7⟩ := h
  exact rmissing_calls m t ep st mr a1 a2 n1 n2 c1 c2 h2 h3 (by omega) (by omega) w h6 h7
theorem same_got (h : Got w v l) (k : Got w u l) : Calls Try.prog 22 #[v, u] w fun e w' => e = .returned (.bool true) ∧ Below w.heap.size w w' := by
  obtain ⟨m, t, ep, st, mr⟩ := l
  obtain ⟨a1, n1, c1, a2, n2, c2, rfl, h2, h3, h4, h5, h6, h7⟩ := h
  obtain ⟨b1, m1, d1, b2, m2, d2, rfl, k2, k3, k4, k5, k6, k7⟩ := k
  obtain rfl : n1 = m1 := h2.symm.trans k2
  obtain rfl : n2 = m2 := h3.symm.trans k3
  exact same_calls m t ep st mr a1 a2 b1 b2 n1 n2 c1 c2 d1 d2 h2 h3 h4 h5 w h6 h7 k6 k7
/-- A label's five cells. -/
theorem Got.five (h : Got w v l) : ∃ a1 n1 c1 a2 n2 c2, v = .agg #[.int .i64 l.m, .int .i64 l.t, .int .i64 l.ep, .slice a1 n1 c1, .slice a2 n2 c2] := by
  obtain ⟨a1, n1, c1, a2, n2, c2, h1, _⟩ := h
  exact ⟨a1, n1, c1, a2, n2, c2, h1⟩
end
/-! What the document fixes. -/
def l0 : Lb := ⟨4, 1, 1, [0, 0, 0, 0], [0, 0, 0, 0]⟩
theorem fresh0 : fresh 4 1 = l0 ∧ freshE 4 1 = 0 := ⟨rfl, rfl⟩
theorem good0 : l0.good = true := by decide
theorem put0 : l0.put = l0.sec ∧ l0.putE = 0 := by unfold Lb.put Lb.putE; rw [good0]; exact ⟨rfl, rfl⟩
theorem get0 : Lab.getE l0.sec = 0 ∧ Lab.get l0.sec = l0 := get_sec ((Lb.good_iff _).1 good0)
theorem whole0 : l0.whole 3 0 = true := by unfold Lb.whole; rw [good0]; decide
theorem len0 : l0.sec.length = 64 := Lb.sec_length (by decide)
theorem head0 : l0.sec.take 18 = [84, 82, 85, 78, 0, 0, 0, 0, 0, 0, 0, 1, 4, 1, 0, 0, 0, 0] := by
  have h : l0.head = [84, 82, 85, 78, 0, 0, 0, 0, 0, 0, 0, 1, 4, 1, 0, 0, 0, 0] := by decide
  unfold Lb.sec Lb.body
  rw [h, List.append_assoc, List.append_assoc]
  exact List.take_left' (by rfl)
theorem text0 : (bts l0.sec).extract 0 18 = ⟨#[84, 82, 85, 78, 0, 0, 0, 0, 0, 0, 0, 1, 4, 1, 0, 0, 0, 0]⟩ := by
  apply by8_inj
  rw [by8_extract, by8_bts _ (Lb.sec_lt _), List.drop_zero, head0]; rfl
attribute [local irreducible] vn bts big num CrcA.sum by8 Lb.sec Lab.get Lab.getE l0
set_option maxHeartbeats 8000000 in
set_option maxRecDepth 100000 in
theorem wakes_calls (w : World) : Calls Try.prog 19 #[] w fun e w' => e = .returned (.bool true) ∧ Below w.heap.size w w' := by
  have HN := Lib.hid (new_calls 4 1 w)
  rw [fresh0.1, fresh0.2] at HN
  have HP := Lib.hid (And.intro put0.1 put0.2)
  obtain ⟨S, hS⟩ : ∃ S, S = bts l0.sec := ⟨_, rfl⟩
  have hS8 : by8 S = l0.sec := by rw [hS]; exact by8_bts _ (Lb.sec_lt _)
  have hsz : S.size = 64 := by rw [hS, bts_size]; exact len0
  have hx : S.extract 0 18 = ⟨#[84, 82, 85, 78, 0, 0, 0, 0, 0, 0, 0, 1, 4, 1, 0, 0, 0, 0]⟩ := by rw [hS]; exact text0
  have z1 : ((S.size : Int) == 64) = true := beq_iff_eq.2 (by omega)
  have z2 : (18 : Int) ≤ (S.size : Int) := by omega
  have he1 : l0.ep = 1 := by unfold l0; rfl
  have hg := fun w2 => get_calls S (by omega) w2
  rw [hS8, get0.1, get0.2] at hg
  have HG := Lib.hid hg
  have HS := Lib.hid hS
  have HW := Lib.hid (And.intro whole0 he1)
  clear hS hS8 hg hsz he1
  go_enter Try.func19, Try.ntmps19
  go_wp2_with fail
  refine HN.out.mono ?_
  rintro e w1 ⟨⟨v, rfl, hv⟩, hb1⟩
  obtain ⟨a1, n1, c1, a2, n2, c2, rfl⟩ := hv.five
  have HB1 := Lib.hid hb1
  have HV := Lib.hid (hv.step (ba (br w1) (.cells #[.int .i64 l0.m, .int .i64 l0.t, .int .i64 l0.ep, .slice a1 n1 c1, .slice a2 n2 c2] 29)))
  clear hv hb1 HN
  go_wp2_with fail
  refine (put_got HV.out).mono ?_
  rw [HP.out.1, HP.out.2, ← HS.out]
  rintro e w2 ⟨rfl, hb2⟩
  have HB2 := Lib.hid (bt (ba HB1.out _) hb2)
  clear hb2 HV
  go_wp2_with fail
  refine (HG.out _).mono ?_
  rintro e w3 ⟨⟨v, rfl, hv⟩, hb3⟩
  have hv := hv.got
  obtain ⟨x1, m1, d1, x2, m2, d2, rfl⟩ := hv.five
  have HB3 := Lib.hid (bt HB2.out hb3)
  have hv2 := hv.step (ba (br w3) (.cells #[.int .i64 l0.m, .int .i64 l0.t, .int .i64 l0.ep, .slice x1 m1 d1, .slice x2 m2 d2] 29))
  have he1 := HW.out.2
  rw [he1] at hv2
  have HV := Lib.hid hv2
  clear hv hb3 hv2
  go_wp2_with fail
  refine (whole_got HV.out 3 0).mono ?_
  rw [HW.out.1]
  rintro e w4 ⟨rfl, hb4⟩
  have HB4 := Lib.hid (bt (ba HB3.out _) hb4)
  clear hb4
  go_wp2
  go_ret
  exact ⟨rfl, HB4.out⟩
end Go.Proofs.Ytmpbohbecidkhaa.Lab
