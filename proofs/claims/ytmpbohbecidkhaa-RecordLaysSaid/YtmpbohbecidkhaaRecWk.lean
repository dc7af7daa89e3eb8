/- Record's law: its sector, and what it fixes (wakes), walked. -/
import Derived.Test.YtmpbohbecidkhaaRecRead
namespace Go.Proofs.Ytmpbohbecidkhaa.Rec
open Go.RowKit Go.Proofs.Ytmpbohbecidkhaa.Mem Go.Proofs.Ytmpbohbecidkhaa.Sep Go.Proofs.Ytmpbohbecidkhaa.B8 Go.Proofs.Ytmpbohbecidkhaa.CrcS Go.Proofs.Ytmpbohbecidkhaa.Num Go.Proofs.Ytmpbohbecidkhaa.Wr Go.Proofs.Ytmpbohbecidkhaa.Ring8
open Go.Proofs.Ytmpbohbecidkhaa.App (toList_ne wpList_app step_app cell_newN frozen_newN Sp.newAt)
open Go.Proofs.Ytmpbohbecidkhaa.Lab (zeros zeros_length zeros_lt by8_extract)
open Go.Proofs.YtmpbohbecidkhaaW.PrintWords hiding bt
set_option linter.unusedVariables false
set_option linter.unusedSimpArgs false

theorem sect_app (d : UInt8) (N : Nat) : B8.bytes [d] ++ B8.bytes (List.replicate N 0) = B8.bytes (d :: List.replicate N 0) := by
  have e : ∀ a b : ByteArray, a.data.toList = b.data.toList → a = b := fun a b h => by
    cases a; cases b
    congr 1
    exact Array.toList_inj.1 h
  apply e
  rw [ByteArray.data_append, Array.toList_append]
  unfold B8.bytes
  simp
section
attribute [local irreducible] B8.bytes cells8
set_option maxHeartbeats 4000000 in
set_option maxRecDepth 100000 in
theorem sector_any (d : UInt8) (odd : Bool) (N : Nat) (hN : (N : Int) = bif odd then 62 else 63) (w : World) :
    Calls Try.prog 58 #[.int .u8 (d.toNat : Int), .bool odd] w fun e w' => e = .returned (.string (B8.bytes (d :: List.replicate N 0))) ∧ Below w.heap.size w w' := by
  have hN1 : N ≤ 100 := by cases odd <;> simp at hN <;> omega
  have hone : (#[.int .u8 (d.toNat : Int)] : Array Value) = cells8 [d] := by unfold cells8; rfl
  obtain ⟨R, hR⟩ : ∃ R, R = cells8 (List.replicate N 0) := ⟨_, rfl⟩
  obtain ⟨Z, hZ⟩ : ∃ Z, Z = B8.bytes (List.replicate N 0) := ⟨_, rfl⟩
  obtain ⟨D, hD⟩ : ∃ D, D = B8.bytes [d] := ⟨_, rfl⟩
  have happ : D ++ Z = B8.bytes (d :: List.replicate N 0) := by rw [hD, hZ]; exact sect_app d N
  rw [← happ]
  have hlR : (List.replicate N (0 : UInt8)).length = N := List.length_replicate
  have m0 : (Instr.makeSlice 48 (.int .i64 (N : Nat)) (.int .i64 (N : Nat))).run Try.prog w.drew = .ok (.slice (some ⟨w.heap.size, 0, none⟩) N N) (w.alloc (.cells R 5)).drew := by rw [hR]; exact made8 w.drew N (by omega)
  have m1 : (Instr.makeSlice 48 (.int .i64 (N : Nat)) (.int .i64 (N : Nat))).run Try.prog (w.alloc (.cells #[.int .u8 (d.toNat : Int)] 5)).drew = .ok (.slice (some ⟨w.heap.size + 1, 0, none⟩) N N) ((w.alloc (.cells #[.int .u8 (d.toNat : Int)] 5)).alloc (.cells R 5)).drew := by
    rw [hR]
    have := made8 (w.alloc (.cells #[.int .u8 (d.toNat : Int)] 5)).drew N (by omega)
    have e : (w.alloc (.cells #[.int .u8 (d.toNat : Int)] 5)).drew.heap.size = w.heap.size + 1 := by simp
    rw [e] at this
    exact this
  have bA : Blk (w.alloc (.cells #[.int .u8 (d.toNat : Int)] 5)) w.heap.size (cells8 [d]) 5 := by rw [← hone]; exact Blk.new _ _ _
  have bR : Blk (w.alloc (.cells R 5)) w.heap.size R 5 := Blk.new _ _ _
  have bAR : Blk ((w.alloc (.cells #[.int .u8 (d.toNat : Int)] 5)).alloc (.cells R 5)) (w.heap.size + 1) R 5 := by
    have := Blk.new (w.alloc (.cells #[.int .u8 (d.toNat : Int)] 5)) R 5
    simpa using this
  have bRA : Blk ((w.alloc (.cells R 5)).alloc (.cells #[.int .u8 (d.toNat : Int)] 5)) (w.heap.size + 1) (cells8 [d]) 5 := by
    have := Blk.new (w.alloc (.cells R 5)) #[.int .u8 (d.toNat : Int)] 5
    rw [← hone]
    simpa using this
  have c1 := conv8 (w.alloc (.cells #[.int .u8 (d.toNat : Int)] 5)).drew w.heap.size [d] 1 1 rfl bA.drew
  have c2 := conv8 ((w.alloc (.cells #[.int .u8 (d.toNat : Int)] 5)).alloc (.cells R 5)).drew w.heap.size [d] 1 1 rfl (bA.alloc _).drew
  have c3 := conv8 ((w.alloc (.cells R 5)).alloc (.cells #[.int .u8 (d.toNat : Int)] 5)).drew (w.heap.size + 1) [d] 1 1 rfl bRA.drew
  have c4 := conv8 (w.alloc (.cells R 5)).drew w.heap.size (List.replicate N 0) N N hlR (by rw [hR]; rw [hR] at bR; exact bR.drew)
  have c5 := conv8 ((w.alloc (.cells R 5)).alloc (.cells #[.int .u8 (d.toNat : Int)] 5)).drew w.heap.size (List.replicate N 0) N N hlR (by rw [hR]; rw [hR] at bR; exact (bR.alloc _).drew)
  have c6 := conv8 ((w.alloc (.cells #[.int .u8 (d.toNat : Int)] 5)).alloc (.cells R 5)).drew (w.heap.size + 1) (List.replicate N 0) N N hlR (by rw [hR]; rw [hR] at bAR; exact bAR.drew)
  rw [← hD] at c1 c2 c3
  rw [← hZ] at c4 c5 c6
  have hDs : D.size = 1 := by rw [hD]; unfold B8.bytes; rfl
  have hZs : Z.size ≤ 100 := by rw [hZ]; unfold B8.bytes; simp [ByteArray.size]; omega
  have hno : ¬ 9223372036854775807 < D.size + Z.size := by omega
  clear hone hR hZ hD happ hlR bA bR bAR bRA hDs hZs
  cases odd with
  | false =>
    have eN : N = 63 := by simp at hN; omega
    subst eN
    simp only [Int.cast_ofNat_Int] at m0 m1
    clear hN hN1
    go_enter Try.func58, Try.ntmps58
    go_wp2
    go_region
    all_goals go_wp2
    all_goals go_ret
    all_goals exact ⟨rfl, bd1 (ba (ba (br _) _) _)⟩
  | true =>
    have eN : N = 62 := by simp at hN; omega
    subst eN
    simp only [Int.cast_ofNat_Int] at m0 m1
    clear hN hN1
    go_enter Try.func58, Try.ntmps58
    go_wp2
    go_region
    all_goals go_wp2
    all_goals go_ret
    all_goals exact ⟨rfl, bd1 (ba (ba (br _) _) _)⟩
end
/-- A law's sector: a byte, and noughts. -/
def sct (d : Nat) (odd : Bool) : List Nat := d :: zeros (bif odd then 62 else 63)
theorem sct_lt {d : Nat} (hd : d < 256) (odd : Bool) : ∀ y ∈ sct d odd, y < 256 := fun y hy => by
  unfold sct at hy
  rcases List.mem_cons.1 hy with rfl | hy
  · exact hd
  · exact zeros_lt _ y hy
theorem sct_length (d : Nat) (odd : Bool) : (sct d odd).length = bif odd then 63 else 64 := by unfold sct; rw [List.length_cons, zeros_length]; cases odd <;> rfl
theorem sector_calls (d : Nat) (hd : d < 256) (odd : Bool) (w : World) :
    Calls Try.prog 58 #[.int .u8 (d : Nat), .bool odd] w fun e w' => e = .returned (.string (bts (sct d odd))) ∧ Below w.heap.size w w' := by
  have h := sector_any (UInt8.ofNat d) odd (bif odd then 62 else 63) (by cases odd <;> rfl) w
  have e1 : (((UInt8.ofNat d).toNat : Nat) : Int) = (d : Int) := by simp; omega
  have e2 : B8.bytes (UInt8.ofNat d :: List.replicate (bif odd then 62 else 63) 0) = bts (sct d odd) := by
    unfold bts sct zeros
    rw [List.map_cons, List.map_replicate]; rfl
  rw [e1, e2] at h
  exact h
def b0 : Bt := ⟨3, [⟨1, 2, sct 120 false⟩]⟩
theorem b0_ok : b0.Ok := by
  refine ⟨by decide, by decide, by decide, fun x hx => ?_⟩
  have hx : x ∈ [(⟨1, 2, sct 120 false⟩ : Wt)] := hx
  rw [List.mem_singleton.1 hx]
  exact ⟨by decide, by decide, by decide, by decide, sct_length _ _⟩
theorem b0_by : b0.By := fun x hx => by
  have hx : x ∈ [(⟨1, 2, sct 120 false⟩ : Wt)] := hx
  rw [List.mem_singleton.1 hx]
  exact sct_lt (by decide) _
theorem Bt.lay_ok {b : Bt} (h : b.Ok) : b.lay = b.secs ∧ b.layE = 0 := by
  have hg := (b.good_iff).2 h
  exact ⟨by unfold Bt.lay; rw [hg]; rfl, by unfold Bt.layE; rw [hg]; rfl⟩
theorem secs_by {b : Bt} (h : b.By) : By b.secs := fun s hs => by
  unfold Bt.secs at hs
  rcases List.mem_append.1 hs with hs | hs
  · obtain ⟨i, _, rfl⟩ := List.mem_map.1 hs
    exact fun y hy => b.head_lt y (List.mem_of_mem_drop (List.mem_of_mem_take hy))
  · obtain ⟨x, hx, rfl⟩ := List.mem_map.1 hs
    exact h x hx
theorem secs_64 {b : Bt} (h : b.Ok) : ∀ s ∈ b.secs, s.length = 64 := fun s hs => by
  unfold Bt.secs at hs
  rcases List.mem_append.1 hs with hs | hs
  · exact cut_all _ _ b.head_length s hs
  · obtain ⟨x, hx, rfl⟩ := List.mem_map.1 hs
    exact (h.at_ x hx).2.2.2.2
def m0 : Mk := ⟨1, 4⟩
theorem m0_good : m0.good = true := by decide
theorem m0_head : (bts m0.sec).extract 0 16 = ⟨#[77, 65, 82, 75, 0, 0, 0, 0, 0, 0, 0, 1, 0, 0, 0, 4]⟩ := by
  rw [bts_extract _ m0.sec_lt, List.drop_zero, show 16 - 0 = 16 by rfl, m0.take16]
  have e : m0.head = [77, 65, 82, 75, 0, 0, 0, 0, 0, 0, 0, 1, 0, 0, 0, 4] := by decide
  rw [e]; rfl
attribute [local irreducible] bts big num CrcA.sum by8 tn Bt.sm Bt.head Mk.sec Bt.secs sct readE read
set_option maxHeartbeats 8000000 in
set_option maxRecDepth 100000 in
theorem wakes_calls (w : World) : Calls Try.prog 35 #[] w fun e w' => e = .returned (.bool true) ∧ Below w.heap.size w w' := by
  have HSEC := Lib.hid (fun w => sector_calls 120 (by decide) false w)
  obtain ⟨X0, hX0⟩ : ∃ X, X = bts (sct 120 false) := ⟨_, rfl⟩
  rw [← hX0] at HSEC
  obtain ⟨e1, e2⟩ := Bt.lay_ok b0_ok
  have hlay := fun a w h => lay_calls b0 b0_by a 1 1 rfl (by decide) w h
  rw [e1, e2, secs_length] at hlay
  have hlay : ∀ a w, RdW w a b0.ws → Calls Try.prog 33 #[.agg #[.int .i64 3, .slice a 1 1]] w fun e w' => ∃ v, e = .returned (.tuple #[v, .int .i64 0]) ∧ Sp w [row 9 1 v 2 (ss b0.secs)] w' := hlay
  obtain ⟨r1, r2⟩ := read_secs b0_ok b0_by
  have hs64 := secs_64 b0_ok
  have hread := fun a c hc hc9 w h => read_calls a 2 c b0.secs (secs_by b0_by) (by rw [secs_length]; rfl) hc hc9 (fun s hs => by rw [hs64 s hs]; decide) w h
  rw [r1, r2] at hread
  have hput := fun w => mput_calls m0 w
  have p1 : m0.put = m0.sec := by unfold Mk.put; rw [m0_good]; rfl
  have p2 : m0.putE = 0 := by unfold Mk.putE; rw [m0_good]; rfl
  rw [p1, p2] at hput
  obtain ⟨Y, hY⟩ : ∃ Y, Y = bts m0.sec := ⟨_, rfl⟩
  have hYs : Y.size = 64 := by rw [hY, bts_size]; exact m0.sec_length
  have hY8 : by8 Y = m0.sec := by rw [hY]; exact by8_bts _ m0.sec_lt
  have hYh : Y.extract 0 16 = ⟨#[77, 65, 82, 75, 0, 0, 0, 0, 0, 0, 0, 1, 0, 0, 0, 4]⟩ := by rw [hY]; exact m0_head
  rw [← hY] at hput
  have hput : ∀ w, Calls Try.prog 37 #[.agg #[.int .i64 1, .int .i64 4]] w fun e w' => e = .returned (.tuple #[.string Y, .int .i64 0]) ∧ Below w.heap.size w w' := hput
  obtain ⟨g1, g2⟩ := get_sec m0_good
  have hget := fun w => mget_calls Y (by omega) w
  rw [hY8, g1, g2] at hget
  have hget : ∀ w, Calls Try.prog 41 #[.string Y] w fun e w' => e = .returned (.tuple #[.agg #[.int .i64 1, .int .i64 4], .int .i64 0]) ∧ Below w.heap.size w w' := hget
  have HL := Lib.hid hlay
  have HR := Lib.hid hread
  have HP := Lib.hid hput
  have HG := Lib.hid hget
  have HX := Lib.hid hX0
  have z1 : ((Y.size : Int) == 64) = true := beq_iff_eq.2 (by omega)
  have z2 : (16 : Int) ≤ (Y.size : Int) := by omega
  clear hX0 e1 e2 hlay r1 r2 hs64 hread hput p1 p2 hY hYs hY8 g1 g2 hget
  go_enter Try.func35, Try.ntmps35
  go_wp2_with fail
  refine (HSEC.out _).mono ?_
  rintro e w1 ⟨rfl, hb1⟩
  have hbk := Blk.new w1 #[.int .i64 1, .int .i64 2, .string X0] 121
  have hrd : RdW (w1.alloc (.cells #[.int .i64 1, .int .i64 2, .string X0] 121)) (some ⟨w1.heap.size, 0, none⟩) b0.ws := fun i x hx => by
    cases i with
    | zero =>
      have hx : x = ⟨1, 2, sct 120 false⟩ := (Option.some.inj hx).symm
      subst hx
      obtain ⟨c0, c1, c2⟩ := blk_cells3 hbk
      exact ⟨_, rfl, c0, c1, by rw [← HX.out]; exact c2⟩
    | succ i => cases hx
  have HL2 := Lib.hid (HL.out _ _ hrd)
  have HB1 := Lib.hid (ba hb1 (.cells #[.int .i64 1, .int .i64 2, .string X0] 121))
  clear hb1 hbk hrd
  go_wp2_with fail
  refine HL2.out.mono ?_
  rintro e w2 ⟨v, rfl, h2⟩
  obtain ⟨a, c, rfl, hc1, hc2, _, hrs⟩ := rds_row (h2.row (v := v) (n := 2) (T := 9) (List.mem_cons_self ..))
  have HR2 := Lib.hid (HR.out a c hc1 (by unfold maxLen at hc2; omega) w2 hrs)
  have HB2 := Lib.hid (bt HB1.out h2.bel)
  clear h2 hc1 hc2 hrs HL2 HB1
  go_wp2_with fail
  refine HR2.out.mono ?_
  rintro e w3 ⟨⟨vb, rfl, hgb⟩, hb3⟩
  obtain ⟨a2, n2, c2, rfl, hn2, _, _, hrw⟩ := hgb
  obtain rfl : n2 = 1 := hn2.symm
  have HB3 := Lib.hid (bt HB2.out hb3)
  have hT3 := Blk.new w3 #[.int .i64 3, .slice a2 1 c2] 72
  have hw3 : RdW (w3.alloc (.cells #[.int .i64 3, .slice a2 1 c2] 72)) a2 b0.ws := hrw.step (ba (br _) _)
  have HT3 := Lib.hid (And.intro hT3 hw3)
  clear hb3 hn2 hrw HR2 HB2 hT3 hw3
  go_wp2_with fail
  refine (HP.out _).mono ?_
  rintro e w4 ⟨rfl, hb4⟩
  have hB4 := HT3.out.1.below hb4 HT3.out.1.lt
  have HB4 := Lib.hid (And.intro (bt (ba HB3.out _) hb4) (And.intro hB4 (HT3.out.2.step hb4)))
  clear hb4 HB3 HT3 hB4
  go_wp2_with fail
  refine (HG.out _).mono ?_
  rintro e w5 ⟨rfl, hb5⟩
  have hB5 := ((HB4.out.2.1.below hb5 HB4.out.2.1.lt).alloc (.cells #[.int .i64 1, .int .i64 4] 88))
  obtain ⟨_, d1⟩ := blk_cells2 hB5
  have hw5 := (HB4.out.2.2.step hb5).step (ba (br w5) (.cells #[.int .i64 1, .int .i64 4] 88))
  obtain ⟨gg, rfl, f0, f1, f2⟩ := hw5 0 _ rfl
  obtain ⟨k0, k1, _⟩ := two (Blk.new w5 #[.int .i64 1, .int .i64 4] 88)
  have HB5 := Lib.hid (ba (bt HB4.out.1 hb5) (.cells #[.int .i64 1, .int .i64 4] 88))
  have f1 : (w5.alloc (.cells #[.int .i64 1, .int .i64 4] 88)).cell? ⟨gg, 1, none⟩ = some (.int .i64 2) := f1
  clear hb5 hB5 hw5 HB4 f0 f2
  go_wp2
  go_ret
  exact ⟨by first | rfl | simp, HB5.out⟩
end Go.Proofs.Ytmpbohbecidkhaa.Rec
