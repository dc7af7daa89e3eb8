/- label.Put, walked. -/
import Derived.Test.YtmpbohbecidkhaaLabB
namespace Go.Proofs.Ytmpbohbecidkhaa.Lab
open Go.RowKit Go.Proofs.Ytmpbohbecidkhaa.Mem Go.Proofs.Ytmpbohbecidkhaa.Sep Go.Proofs.Ytmpbohbecidkhaa.Num Go.Proofs.Ytmpbohbecidkhaa.B8 Go.Proofs.Ytmpbohbecidkhaa.CrcS Go.Proofs.Ytmpbohbecidkhaa.Bld
open Go.Proofs.YtmpbohbecidkhaaW.PrintWords hiding bt
set_option linter.unusedVariables false
set_option linter.unusedSimpArgs false

theorem body_lt (l : Lb) : ∀ b ∈ l.body, b < 256 := fun b hb => by
  unfold Lb.body zeros at hb
  simp only [List.mem_append] at hb
  rcases hb with hb | hb
  · exact l.head_lt b hb
  · rw [List.eq_of_mem_replicate hb]; decide
theorem good_nat {l : Lb} (h : l.good = true) : ∃ M T E : Nat, l.m = M ∧ l.t = T ∧ l.ep = E := by
  have ok := (Lb.good_iff l).1 h
  have := ok.m4; have := ok.t1; have := ok.e1
  exact ⟨l.m.toNat, l.t.toNat, l.ep.toNat, by omega, by omega, by omega⟩
attribute [local irreducible] vn bts big num Lb.byte CrcA.sum Lb.body zeros

set_option maxHeartbeats 8000000 in
set_option maxRecDepth 100000 in
theorem put_calls (m t ep : Int) (st mr : List Int) (a1 a2 : Option Addr) (n1 n2 c1 c2 : Nat) (hn1 : st.length = n1) (hn2 : mr.length = n2) (hs1 : n1 ≤ 9223372036854775807) (hs2 : n2 ≤ 9223372036854775807) (w : World) (r1 : Rw w a1 st) (r2 : Rw w a2 mr) :
    Calls Try.prog 15 #[lval ⟨m, t, ep, st, mr⟩ a1 n1 c1 a2 n2 c2] w fun e w' => e = .returned (.tuple #[.string (bts (Lb.mk m t ep st mr).put), .int .i64 (Lb.mk m t ep st mr).putE]) ∧ Below w.heap.size w w' := by
  have hA := ba (br w) (.cells #[.int .i64 m, .int .i64 t, .int .i64 ep, .slice a1 n1 c1, .slice a2 n2 c2] 29)
  have hb : Blk (w.alloc (.cells #[.int .i64 m, .int .i64 t, .int .i64 ep, .slice a1 n1 c1, .slice a2 n2 c2] 29)) w.heap.size #[.int .i64 m, .int .i64 t, .int .i64 ep, .slice a1 n1 c1, .slice a2 n2 c2] 29 := Blk.new _ _ _
  have HG := Lib.hid (good_calls m t ep st mr a1 a2 n1 n2 c1 c2 hn1 hn2 hs1 hs2 (w.alloc (.cells #[.int .i64 m, .int .i64 t, .int .i64 ep, .slice a1 n1 c1, .slice a2 n2 c2] 29)) (r1.step hA) (r2.step hA))
  cases hg : (Lb.mk m t ep st mr).good with
  | false =>
    have e1 : (Lb.mk m t ep st mr).put = [] := by unfold Lb.put; rw [hg]; rfl
    have e2 : (Lb.mk m t ep st mr).putE = 4 := by unfold Lb.putE; rw [hg]; rfl
    rw [hg] at HG
    rw [e1, e2]
    have e3 : bts [] = ⟨#[]⟩ := by unfold bts B8.bytes; rfl
    rw [e3]
    have HA := Lib.hid hA
    clear hb hA hg e1 e2 e3 r1 r2 hn1 hn2 hs1 hs2
    show Calls Try.prog 15 #[.agg #[.int .i64 m, .int .i64 t, .int .i64 ep, .slice a1 n1 c1, .slice a2 n2 c2]] w _
    go_enter Try.func15, Try.ntmps15
    go_wp2_with fail
    refine HG.out.mono ?_
    rintro e w' ⟨rfl, hbel⟩
    have HB := Lib.hid hbel
    clear hbel
    go_wp2
    go_ret2
    exact ⟨rfl, bt HA.out HB.out⟩
  | true =>
    have e1 : (Lb.mk m t ep st mr).put = (Lb.mk m t ep st mr).sec := by unfold Lb.put; rw [hg]; rfl
    have e2 : (Lb.mk m t ep st mr).putE = 0 := by unfold Lb.putE; rw [hg]; rfl
    obtain ⟨M, T, E, hM, hT, hE⟩ := good_nat hg
    have hM : m = M := hM
    have hT : t = T := hT
    have hE : ep = E := hE
    subst hM hT hE
    rw [hg] at HG
    rw [e1, e2]
    have hok := (Lb.good_iff _).1 hg
    have hbl : (Lb.mk (M : Int) T E st mr).body.length = 46 := Lb.body_length hok.n32
    obtain ⟨bdy, hbd⟩ : ∃ bdy, bdy = (Lb.mk (M : Int) T E st mr).body := ⟨_, rfl⟩
    have hlt : ∀ b ∈ bdy, b < 256 := by rw [hbd]; exact body_lt _
    have hsec : (Lb.mk (M : Int) T E st mr).sec = bdy ++ big 4 (CrcA.sum bdy) ++ zeros 14 := by unfold Lb.sec; rw [← hbd]
    rw [hsec]
    have HBODY := Lib.hid (fun w2 k1 k2 => body_calls M T E st mr a1 a2 n1 n2 c1 c2 hn1 hn2 w2 k1 k2 hg)
    rw [← hbd] at HBODY hbl
    obtain ⟨S, hS⟩ : ∃ S, S = bts bdy := ⟨_, rfl⟩
    have hS8 : by8 S = bdy := by rw [hS]; exact by8_bts _ hlt
    have sS : S.size = 46 := by rw [hS, bts_size]; exact hbl
    rw [← hS] at HBODY
    have HSLOW := Lib.hid (fun w2 => slow_calls S (by omega) w2)
    rw [hS8] at HSLOW
    obtain ⟨c, hc⟩ : ∃ c, c = CrcA.sum bdy := ⟨_, rfl⟩
    have hc4 : c < 4294967296 := by rw [hc]; have := CrcA.sum_lt bdy hlt; have e : (256 : Nat) ^ 4 = 4294967296 := by decide
                                    omega
    rw [← hc] at HSLOW ⊢
    have HN := Lib.hid (fun w2 => number_calls c 4 (by omega) (by omega) w2)
    obtain ⟨A4, hA4⟩ : ∃ A, A = bts (big 4 c) := ⟨_, rfl⟩
    have s4 : A4.size = 4 := by rw [hA4, bts_size, big_length]
    rw [← hA4] at HN
    have HZ := Lib.hid (fun w2 => noughts_calls 14 (by omega) w2)
    obtain ⟨Z, hZ⟩ : ∃ Z, Z = bts (zeros 14) := ⟨_, rfl⟩
    have sZ : Z.size = 14 := by rw [hZ, bts_size, zeros_length]
    rw [← hZ] at HZ
    have hfin : S ++ A4 ++ Z = bts (bdy ++ big 4 c ++ zeros 14) := by rw [bts_app, bts_app, hS, hA4, hZ]
    have HFIN := Lib.hid hfin
    have HA := Lib.hid (And.intro hA (And.intro r1 (And.intro r2 hb)))
    clear hbd hb hA hg e1 e2 r1 r2 hn1 hn2 hs1 hs2 hok hbl hlt hsec hS hS8 hc hA4 hZ hfin
    show Calls Try.prog 15 #[.agg #[.int .i64 (M : Nat), .int .i64 (T : Nat), .int .i64 (E : Nat), .slice a1 n1 c1, .slice a2 n2 c2]] w _
    go_enter Try.func15, Try.ntmps15
    go_wp2_with fail
    refine HG.out.mono ?_
    rintro e w' ⟨rfl, hbel⟩
    have hb2 := HA.out.2.2.2.below hbel (Blk.lt HA.out.2.2.2)
    have e0 : w'.cell? ⟨w.heap.size, 0, none⟩ = some (.int .i64 (M : Nat)) := hb2.cell 0
    have e1 : w'.cell? ⟨w.heap.size, 1, none⟩ = some (.int .i64 (T : Nat)) := hb2.cell 1
    have e2 : w'.cell? ⟨w.heap.size, 2, none⟩ = some (.int .i64 (E : Nat)) := hb2.cell 2
    have e3 : w'.cell? ⟨w.heap.size, 3, none⟩ = some (.slice a1 n1 c1) := hb2.cell 3
    have e4 : w'.cell? ⟨w.heap.size, 4, none⟩ = some (.slice a2 n2 c2) := hb2.cell 4
    have HB := Lib.hid (bt HA.out.1 hbel)
    clear hb2 hbel
    go_wp2_with fail
    refine (HBODY.out _ (HA.out.2.1.step HB.out) (HA.out.2.2.1.step HB.out)).mono ?_
    rintro e w2 ⟨rfl, h2⟩
    have HB2 := Lib.hid (bt HB.out h2)
    clear h2 e0 e1 e2 e3 e4
    go_wp2_with fail
    refine (HSLOW.out _).mono ?_
    rintro e w3 ⟨rfl, ⟨nd, rfl⟩⟩
    have hcw : (c : Int) % 18446744073709551616 = c := by omega
    go_wp2_with fail
    refine (HN.out _).mono ?_
    rintro e w4 ⟨rfl, h4⟩
    have HB4 := Lib.hid (bt (bd HB2.out nd) h4)
    clear h4
    go_wp2_with fail
    refine (HZ.out _).mono ?_
    rintro e w5 ⟨rfl, h5⟩
    have HB5 := Lib.hid (bt HB4.out h5)
    clear h5
    go_wp2
    go_ret2
    exact ⟨by rw [HFIN.out]; first | done | rfl, HB5.out⟩
end Go.Proofs.Ytmpbohbecidkhaa.Lab
