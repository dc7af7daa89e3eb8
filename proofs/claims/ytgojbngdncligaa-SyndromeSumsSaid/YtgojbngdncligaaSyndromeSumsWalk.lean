/- SyndromeSums: the parities of sums of columns are the sums of the parities; walked. -/
import Derived.Test.YtgojbngdncligaaSynTwo
import Derived.Deep.DeepCutAuto
import Derived.Deep.CutBlock
import Derived.Deep.RegionHeldLaw
import Derived.StillTailTactics
import Derived.Deep.QuietTactic
import Derived.BigQuiet
namespace Go.Proofs.Ytgojbngdncligaa.SyndromeSumsW
open Go.RowKit Go.Proofs.Ytgojbngdncligaa.Mem Go.Proofs.Ytgojbngdncligaa.Bulk Go.Proofs.Ytgojbngdncligaa.Opn Go.Proofs.Ytgojbngdncligaa.Syn Go.Proofs.Ytgojbngdncligaa.Words Go.Proofs.Ytgojbngdncligaa.Lanes Go.Proofs.Ytgojbngdncligaa.Bts Go.Proofs.Ytgojbngdncligaa.Bits Go.Proofs.Ytgojbngdncligaa.BulkLimitsW
open Go.Lib (Bytes run_convert_whole)
set_option linter.unusedVariables false
set_option linter.unusedSimpArgs false

theorem zip_snoc (L ms : List ByteArray) (k : Nat) (hk : ms.length = k) (o t : ByteArray) (ho : L[k]? = some o) :
    List.zipWith bAdd (L.take k) ms ++ [bAdd o t] = List.zipWith bAdd (L.take (k + 1)) (ms ++ [t]) := by
  have hkl := (List.getElem?_eq_some_iff.1 ho).1
  rw [List.take_add_one, ho, List.zipWith_append (by rw [List.length_take]; omega)]; rfl
theorem str_info : (Try.prog.info? 9).map (fun i => (i.zero, i.size, i.bytes)) = some (some (.string ⟨#[]⟩), 1, 16) := by kernel_rfl
theorem t3_nil {w0 : World} {g : Nat} {L : List ByteArray} {w : World} (hr : Row g L w) (hb : Below w0.heap.size w0 w) : T3 w0 g L w (.slice none 0 0) (.slice none 0 0) [] [] :=
  ⟨⟨rfl, .inl ⟨rfl, rfl⟩⟩, ⟨rfl, .inl ⟨rfl, rfl⟩⟩, by simp [Value.ownBlock], by simp [Value.ownBlock], by simp [Value.ownBlock], hr, hb⟩

set_option maxHeartbeats 8000000 in
set_option maxRecDepth 100000 in
theorem walk (a0 : Option Addr) (len0 cap0 : Nat) (a1 : Option Addr) (len1 cap1 : Nat) (w : World) (f0 : Rd w (.slice 1 16 (.str)) [.slice a0 len0 cap0]) (f1 : Rd w (.slice 1 16 (.str)) [.slice a1 len1 cap1]) :
    Calls Try.prog 10 #[.slice a0 len0 cap0, .slice a1 len1 cap1] w fun e w' => e = .returned (.bool true) ∧ Below w.heap.size w w' := by
  obtain ⟨ss, rfl, hn, hcm, hS, hz⟩ := rd_strs f0
  obtain ⟨cs, hcl, hn1, hcm1, hS1, hz1⟩ := rd_strs f1
  obtain ⟨L, hL⟩ : ∃ L, L = SynCut.cutL true ss := ⟨_, rfl⟩
  have hcut := SynCut.cut_calls a0 cap0 ss true hn hcm (fun s h => by have := hz s h; omega) w hS
  have hl := Syn.cut_len true ss
  obtain ⟨n, hn60, hall⟩ := cut_even ss
  rw [← hL] at hcut hl hall
  have HC := Lib.hid hcut
  have hl12 : L.length ≤ 34 := by omega
  have HALL := Lib.hid (And.intro hall (And.intro hcl (And.intro hS1 hz1)))
  obtain ⟨i0, hi, hz0, hz1', hz2'⟩ := info_parts str_info
  clear hcut hl hL hS hz f0 f1 hall hcl hS1 hz1 hn
  go_enter Try.func10, Try.ntmps10
  go_wp2_with fail
  refine HC.out.mono ?_
  rintro e w1 ⟨v, rfl, hown, b1⟩
  by_cases h2 : L.length < 2
  · obtain ⟨a, c, rfl, hc, hc2, hst, hB⟩ := own_strs hown
    have d1 : decide ((L.length : Int) < 2) = true := decide_eq_true (by omega)
    clear hown hst hB
    go_wp2_with fail
    refine (Syn.wakes_calls _).mono ?_
    rintro e w3 ⟨rfl, b3⟩
    go_wp2
    go_ret
    exact ⟨rfl, bt b1 b3⟩
  · obtain ⟨g, c, rfl, hc, hc2, hg, hrow⟩ := Row.of_own hown (by omega)
    clear hown
    have d1 : decide ((L.length : Int) < 2) = false := decide_eq_false (by omega)
    by_cases h3 : 30 < L.length
    · have d2 : decide ((30 : Int) < (L.length : Int)) = true := decide_eq_true (by omega)
      clear hrow
      go_wp2_with fail
      refine (Syn.wakes_calls _).mono ?_
      rintro e w3 ⟨rfl, b3⟩
      go_wp2
      go_ret
      exact ⟨rfl, bt b1 b3⟩
    · have d2 : decide ((30 : Int) < (L.length : Int)) = false := decide_eq_false (by omega)
      have hcols : Cols n L := ⟨by omega, HALL.out.1, by omega, by omega⟩
      have HCO := Lib.hid hcols
      obtain ⟨len, hlen⟩ : ∃ len, len = L.length := ⟨_, rfl⟩
      rw [← hlen] at d1 d2 hc h2 h3 ⊢
      have HLEN := Lib.hid hlen
      have hB1 := b1.size
      clear hcols hlen hl12
      go_wp2
      go_loopw [6, 7, 36] (fun s6 s7 s36 wr => ∃ (k : Nat) (v6 v7 : Value) (ms : List ByteArray), k ≤ len ∧ s36 = .int .i64 k ∧ v6 = s6 ∧ v7 = s7 ∧ Hid (ms.length = k ∧ AllSz n ms) ∧ T3 w g L wr v6 v7 ms (List.zipWith bAdd (L.take k) ms)) (fun _ _ i _ => len - (intOf i).toNat)
      case atStart => exact ⟨0, _, _, [], Nat.zero_le _, rfl, rfl, rfl, Lib.hid ⟨rfl, fun s hs => by simp at hs⟩, t3_nil hrow b1⟩
      case round =>
        obtain ⟨k, v6, v7, ms, hk, rfl, rfl, rfl, HM, hT⟩ := hrel
        by_cases hlt : k < len
        · have dlt : decide ((k : Int) < (len : Int)) = true := decide_eq_true (by omega)
          have ilt : ((k : Int) < (len : Int)) = True := eq_true (by omega)
          obtain ⟨o, ho⟩ : ∃ o, L[k]? = some o := ⟨_, List.getElem?_eq_getElem (by have := HLEN.out; omega)⟩
          have hon : o.size = n := HALL.out.1 o (List.mem_of_getElem? ho)
          have hcello := hT.row.cell ho
          have HO := Lib.hid ho
          clear ho
          go_upto_if 44 with fail
          go_cut [10] (fun s10 wx => ∃ t : ByteArray, t.size ≤ 60 ∧ s10 = .string t ∧ T3 w g L wx v6 v7 ms (List.zipWith bAdd (L.take k) ms))
          case first =>
            by_cases h5 : k < len1
            · have d5 : decide ((k : Int) < (len1 : Int)) = true := decide_eq_true (by omega)
              have i5 : ((k : Int) < (len1 : Int)) = True := eq_true (by omega)
              obtain ⟨s, hs⟩ : ∃ s, cs[k]? = some s := ⟨_, List.getElem?_eq_getElem (by have := HALL.out.2.1; omega)⟩
              obtain ⟨x, rfl, hcx⟩ := HALL.out.2.2.1 k s hs
              have hcx' : wr.cell? (x.add k) = some (.string s) := by rw [hT.below.cell (World.block_lt_of_cell? w _ hcx)]; exact hcx
              have hsz := HALL.out.2.2.2 s (List.mem_of_getElem? hs)
              clear hs hcx
              have HT := Lib.hid hT
              clear hT
              by_cases h6 : 60 < s.size
              · have m6 : min (s.size : Int) 60 = 60 := by omega
                have q6 : (60 : Int) ≤ (s.size : Int) := by omega
                go_wp2
                go_region
                all_goals go_wp2
                all_goals go_meet
                all_goals (case rel => exact ⟨_, by first | (simp only [ByteArray.size_extract]; omega) | omega | (simp; omega), rfl, HT.out.step (bd1 (br _))⟩)
              · have m6 : min (s.size : Int) 60 = s.size := by omega
                go_wp2
                go_region
                all_goals go_wp2
                all_goals go_meet
                all_goals (case rel => exact ⟨_, by first | (simp only [ByteArray.size_extract]; omega) | omega | (simp; omega), rfl, HT.out.step (bd1 (br _))⟩)
            · have d5 : decide ((k : Int) < (len1 : Int)) = false := decide_eq_false (by omega)
              go_wp2
              go_meet
              case rel => exact ⟨⟨#[]⟩, by decide, rfl, hT⟩
          case rest =>
            obtain ⟨t0, ht0, rfl, hT1⟩ := hcut
            clear hT hcello
            go_upto_region 11 with fail
            go_cut [10] (fun s10 wx => ∃ t : ByteArray, t.size = n ∧ s10 = .string t ∧ T3 w g L wx v6 v7 ms (List.zipWith bAdd (L.take k) ms))
            case first =>
              obtain ⟨Z, hZ⟩ : ∃ Z, Z = noughts 60 := ⟨_, rfl⟩
              have hZs : Z.size = 60 := by rw [hZ, BulkLimitsW.noughts_size]
              have hmk : (Instr.makeSlice 41 (.int .i64 60) (.int .i64 60)).run Try.prog wc = .ok (.slice (some ⟨wc.heap.size, 0, none⟩) 60 60) (wc.alloc (.cells (rowC [] 60) 5)) := long_made wc 60 (by omega)
              have hcv : (convert 41 9 (.slice (some ⟨wc.heap.size, 0, none⟩) 60 60)).run Try.prog (wc.alloc (.cells (rowC [] 60) 5)) = .ok (.string (noughts 60)) (wc.alloc (.cells (rowC [] 60) 5)) := long_text wc 60
              rw [← hZ] at hcv
              obtain ⟨R, hR⟩ : ∃ R, R = rowC [] 60 := ⟨_, rfl⟩
              rw [← hR] at hmk hcv
              have hT2 := hT1.step (ba (br wc) (.cells R 5))
              have HT2 := Lib.hid hT2
              clear hZ hR hT2 hT1
              go_wp2
              go_meet
              case rel => exact ⟨_, by simp only [ByteArray.size_extract, ByteArray.size_append]; omega, rfl, HT2.out⟩
            case rest =>
              obtain ⟨t, ht, rfl, hT2⟩ := hcut
              clear hT1 ht0
              have hcv := run_bytes_of_string (P := Try.prog) wc 9 41 5 o (by kernel_rfl) (by kernel_rfl) (by kernel_rfl)
              obtain ⟨cap, hcap⟩ : ∃ cap, cap = grownCap wc o.size 0 5 := ⟨_, rfl⟩
              obtain ⟨w3, hw3⟩ : ∃ w3, w3 = (wc.drew.alloc (.cells (bytesRow o cap) 5 ((bytesRow o cap).size, (bytesRow o cap).size + 1))) := ⟨_, rfl⟩
              rw [← hcap, ← hw3] at hcv
              have hB : Bs w3 wc.heap.size (by8 o) := by rw [hw3]; exact bytes_new wc o cap 5
              have k3 : Below wc.heap.size wc w3 := by rw [hw3]; exact ba (bd1 (br _)) _
              have hT3 := T4.new hT2 k3 hB (by rw [hw3]; simp)
              obtain ⟨q, hq⟩ : ∃ q, q = wc.heap.size := ⟨_, rfl⟩
              rw [← hq] at hcv hT3
              rw [hon] at hcv
              clear hcap hw3 hB k3 hT2 hq
              go_wp2
              go_loopw [67] (fun s67 wy => ∃ (j : Nat) (l : List Nat), j ≤ n ∧ s67 = .int .i64 j ∧ Hid (l.length = n ∧ (∀ z ∈ l, z < 256) ∧ ∀ i, l.getD i 0 = if i < j then bat o i ^^^ bat t i else bat o i) ∧ T4 w g q L l wy v6 v7 ms (List.zipWith bAdd (L.take k) ms)) (fun i _ => n - (intOf i).toNat)
              case atStart => exact ⟨0, by8 o, Nat.zero_le _, rfl, Lib.hid ⟨by rw [by8_length]; exact hon, by8_lt o, fun i => rfl⟩, hT3⟩
              case round =>
                obtain ⟨j, l, hj, rfl, HL, hT4⟩ := hrel
                clear hT3 hcv
                by_cases hjt : j < n
                · have dlt2 : decide ((j : Int) < (n : Int)) = true := decide_eq_true (by omega)
                  have ilt2 : ((j : Int) < (n : Int)) = True := eq_true (by omega)
                  obtain ⟨x, hx⟩ : ∃ x, l[j]? = some x := ⟨_, List.getElem?_eq_getElem (by have := HL.out.1; omega)⟩
                  have hx8 : x < 256 := HL.out.2.1 x (List.mem_of_getElem? hx)
                  have hxo : x = bat o j := by
                    have := HL.out.2.2 j
                    rw [List.getD_eq_getElem?_getD, hx, if_neg (by omega)] at this
                    exact this
                  obtain ⟨y, hy8, hyt, hy2⟩ := by8_at t j (by omega)
                  have hyb : y = bat t j := by unfold bat; rw [List.getD_eq_getElem?_getD, hy2]; rfl
                  have c1 := (hT4.x j x hx).1
                  have g1 := (hT4.x j x hx).2
                  have hxy : Go.bits .xor .u8 (x : Int) (y : Int) = ((x ^^^ y : Nat) : Int) := xor_u8 x y hx8 hy8
                  have hT5 := hT4.drew.set j (x ^^^ y) x hx
                  have hl2 : (l.set j (x ^^^ y)).length = n ∧ (∀ z ∈ l.set j (x ^^^ y), z < 256) ∧ ∀ i, (l.set j (x ^^^ y)).getD i 0 = if i < j + 1 then bat o i ^^^ bat t i else bat o i := by
                    refine ⟨by rw [List.length_set]; exact HL.out.1, fun z hz => ?_, fun i => ?_⟩
                    · rcases List.mem_or_eq_of_mem_set hz with h | h
                      · exact HL.out.2.1 z h
                      · rw [h]; exact xor_lt8 x y hx8 hy8
                    · rw [List.getD_eq_getElem?_getD]
                      by_cases hij : j = i
                      · subst hij
                        rw [List.getElem?_set_self (by have := HL.out.1; omega), if_pos (by omega), hxo, hyb]; rfl
                      · rw [List.getElem?_set_ne hij, ← List.getD_eq_getElem?_getD, HL.out.2.2 i]
                        by_cases hij2 : i < j
                        · rw [if_pos hij2, if_pos (by omega)]
                        · rw [if_neg hij2, if_neg (by omega)]
                  have HL2 := Lib.hid hl2
                  have j5 : (0 : Int) ≤ (j : Int) := by omega
                  have HT5 := Lib.hid hT5
                  clear hl2 hxo hyb hx hy2 hT4 hT5
                  go_wp2
                  go_still_tail 9, (by kernel_rfl)
                  go_wp2
                  go_roundw
                  case measure => simp [intOf]; omega
                  case rel => exact ⟨j + 1, _, by omega, by go_num, HL2, HT5.out⟩
                · obtain rfl : n = j := by omega
                  have dlt2 : decide ((n : Int) < (n : Int)) = false := decide_eq_false (by omega)
                  obtain ⟨u, hu⟩ : ∃ u, u = txt l := ⟨_, rfl⟩
                  have hun : u.size = n := by rw [hu, txt_size]; exact HL.out.1
                  have hub : u = bAdd o t := buf_ext (by rw [hun, bAdd_size _ _ (by omega), hon]) (fun i hi => by
                    rw [bat_add _ _ (by omega), hu, bat_txt _ HL.out.2.1, HL.out.2.2 i, if_pos (by omega)])
                  have hcv2 : ∀ (w' : World) (v6 v7 : Value) (ms bs : List ByteArray), T4 w g q L l w' v6 v7 ms bs → (convert 41 9 (.slice (some ⟨q, 0, none⟩) n cap)).run Try.prog w' = .ok (.string u) w' :=
                    fun w' v6 v7 ms bs h => h.conv HL.out.2.1 cap n u hu hun.symm
                  have HCV := Lib.hid hcv2
                  have hkl : ms.length = k := HM.out.1
                  obtain ⟨bs, hbs⟩ : ∃ bs, bs = List.zipWith bAdd (L.take k) ms := ⟨_, rfl⟩
                  have hbl : bs.length = k := by rw [hbs, List.length_zipWith, List.length_take]; have := HLEN.out; omega
                  rw [← hbs] at hT4
                  have HB2 := Lib.hid (And.intro hbs (And.intro hub (And.intro hkl hbl)))
                  have HE : Hid (bs ++ [u] = List.zipWith bAdd (L.take (k + 1)) (ms ++ [t])) := Lib.hid (by rw [hbs, hub]; exact zip_snoc L ms k hkl o t HO.out)
                  have HMS : Hid ((ms ++ [t]).length = k + 1 ∧ AllSz n (ms ++ [t])) := Lib.hid ⟨by rw [List.length_append, hkl]; rfl, fun s hs => by
                    rcases List.mem_append.1 hs with h | h
                    · exact HM.out.2 s h
                    · simp at h; rw [h]; exact ht⟩
                  have hk30 : k < 30 := by omega
                  have HS := hT4.drew
                  have HN : Hid (∀ b, wr.heap.size ≤ b → v6.ownBlock ≠ some b ∧ v7.ownBlock ≠ some b) := Lib.hid (fun b hb => ⟨own_ne hT4.t.a hb, own_ne hT4.t.b hb⟩)
                  clear hu hub hcv2 hbs hkl hbl hT4
                  go_wp2
                  go_region_held_law (fun w' => (convert 41 9 (.slice (some ⟨q, 0, none⟩) n cap)).run Try.prog w' = .ok (.string u) w')
                    (first | assumption | exact HCV.out _ _ _ _ _ HS | exact HCV.out _ _ _ _ _ (HS.alloc _) | exact HCV.out _ _ _ _ _ ((HS.alloc _).alloc _))
                    (first
                      | (refine step_append_lies _ (by rfl) (.tmp 80) (.tmp 82) 22 (by rfl) w.heap.size 9 i0 (.string ⟨#[]⟩) 1 16 Try.underlying22 hi hz0 hz1' hz2' rfl (by decide) _ _ _ (by rfl) (by first | exact HS.t.a | exact (HS.alloc _).t.a | exact ((HS.alloc _).alloc _).t.a) _ 1 1 [.string t] (by rfl) rfl (news1 (by first | (simp; done) | (rw [HF.out _ _ (by first | (simp; done) | (simp; omega) | omega) (by first | exact (HN.out _ (by simp)).1 | exact (HN.out _ (by simp)).2)]; simp; done))) (one_cell t) (by decide) (by have := HB2.out.2.2.1; unfold maxLen; omega) (by have := HB2.out.2.2.1; omega) (by first | exact HS.t.below.size | exact (HS.alloc _).t.below.size | exact ((HS.alloc _).alloc _).t.below.size) _ rfl ?_
                         intro p cap1 w5 hown hgrow hat hlt
                         have HF := Lib.hid (fun (b i : Nat) hb hv => far_cell hgrow (b := b) (i := i) hb hv)
                         first | have HS := HS.push6 rfl hown hgrow hat | have HS := (HS.alloc _).push6 rfl hown hgrow hat | have HS := ((HS.alloc _).alloc _).push6 rfl hown hgrow hat
                         clear hown hgrow hat hlt)
                      | (refine step_append_lies _ (by rfl) (.tmp 84) (.tmp 87) 22 (by rfl) w.heap.size 9 i0 (.string ⟨#[]⟩) 1 16 Try.underlying22 hi hz0 hz1' hz2' rfl (by decide) _ _ _ (by rfl) (by first | exact HS.t.b | exact (HS.alloc _).t.b | exact ((HS.alloc _).alloc _).t.b) _ 1 1 [.string u] (by rfl) rfl (news1 (by first | (simp; done) | (rw [HF.out _ _ (by first | (simp; done) | (simp; omega) | omega) (by first | exact (HN.out _ (by simp)).1 | exact (HN.out _ (by simp)).2)]; simp; done))) (one_cell u) (by decide) (by have := HB2.out.2.2.2; unfold maxLen; omega) (by have := HB2.out.2.2.2; omega) (by first | exact HS.t.below.size | exact (HS.alloc _).t.below.size | exact ((HS.alloc _).alloc _).t.below.size) _ rfl ?_
                         intro p cap1 w5 hown hgrow hat hlt
                         have HF := Lib.hid (fun (b i : Nat) hb hv => far_cell hgrow (b := b) (i := i) hb hv)
                         first | have HS := HS.push7 rfl hown hgrow hat | have HS := (HS.alloc _).push7 rfl hown hgrow hat | have HS := ((HS.alloc _).alloc _).push7 rfl hown hgrow hat
                         clear hown hgrow hat hlt))
                  all_goals go_wp2
                  all_goals go_roundw
                  all_goals first
                    | (simp [intOf]; omega)
                    | exact ⟨k + 1, _, _, ms ++ [t], by omega, by go_num, rfl, rfl, HMS, by have h := HS.t; rw [HE.out] at h; exact h⟩
        · obtain rfl : k = len := by omega
          have dlt : decide ((k : Int) < (k : Int)) = false := decide_eq_false (by omega)
          have htk : L.take k = L := by rw [HLEN.out]; exact List.take_length
          rw [htk] at hT
          have hcm2 : Cols n ms := ⟨by omega, HM.out.2, by have := HM.out.1; omega, by have := HM.out.1; omega⟩
          obtain ⟨hcb, hsp, hsq⟩ := HCO.out.sums hcm2 (by have := HM.out.1; have := HLEN.out; omega)
          obtain ⟨bs, hbs⟩ : ∃ bs, bs = List.zipWith bAdd L ms := ⟨_, rfl⟩
          rw [← hbs] at hT hcb hsp hsq
          have hml : ms.length = k := HM.out.1
          have hbl : bs.length = k := by rw [hbs, List.length_zipWith]; have := HLEN.out; omega
          obtain ⟨a6, c6, rfl, hc6, hm6, _, _⟩ := own_strs hT.a
          obtain ⟨a7, c7, rfl, hc7, hm7, _, _⟩ := own_strs hT.b
          have hk1 := make_calls (some ⟨g, 0, none⟩) c L (by rw [← HLEN.out]; exact hc) hc2 (by rw [← HLEN.out]; omega) (fun s h => by have := HCO.out.all s h; omega) wr hT.row.strs (fun x hx => by cases hx; exact hT.row.lt)
          rw [HCO.out.ok, ← HLEN.out] at hk1
          have pP := HCO.out.p.1
          have pQ := HCO.out.q.1
          have pR := hcm2.p.1
          have pS := hcm2.q.1
          have pX := hcb.p.1
          have pY := hcb.q.1
          have HC2 := Lib.hid (And.intro hcm2 hcb)
          obtain ⟨P, hP⟩ : ∃ P, P = makeP L := ⟨_, rfl⟩
          obtain ⟨Q, hQ⟩ : ∃ Q, Q = makeQ L := ⟨_, rfl⟩
          obtain ⟨R, hR⟩ : ∃ R, R = makeP ms := ⟨_, rfl⟩
          obtain ⟨S, hS⟩ : ∃ S, S = makeQ ms := ⟨_, rfl⟩
          obtain ⟨X, hX⟩ : ∃ X, X = makeP bs := ⟨_, rfl⟩
          obtain ⟨Y, hY⟩ : ∃ Y, Y = makeQ bs := ⟨_, rfl⟩
          rw [← hP, ← hQ] at hk1
          rw [← hP] at pP hsp
          rw [← hQ] at pQ hsq
          rw [← hR] at pR hsp
          rw [← hS] at pS hsq
          rw [← hX] at pX hsp
          rw [← hY] at pY hsq
          have HK1 := Lib.hid hk1
          have HSUM := Lib.hid (And.intro hsp hsq)
          have HEQ := Lib.hid (And.intro hR (And.intro hS (And.intro hX hY)))
          have HMB := Lib.hid (And.intro hml hbl)
          have HT := Lib.hid hT
          clear hcm2 hcb hsp hsq hk1 hP hQ hR hS hX hY hbs hml hbl hT htk HM hrow
          go_wp2_with fail
          refine HK1.out.mono ?_
          rintro e w2 ⟨rfl, b2⟩
          have hT2 := HT.out.step b2
          obtain ⟨_, _, _, hst2, hbd2⟩ := own_shape hT2.a
          have hk2 := make_calls a6 c6 ms hc6 hm6 (by have := HMB.out.1; omega) (fun s h => by have := HC2.out.1.all s h; omega) w2 hst2 hbd2
          rw [HC2.out.1.ok, ← HEQ.out.1, ← HEQ.out.2.1] at hk2
          have HK2 := Lib.hid hk2
          have HT2 := Lib.hid hT2
          clear hk2 hst2 hbd2 hT2 b2 HK1
          go_wp2_with fail
          refine HK2.out.mono ?_
          rintro e w3 ⟨rfl, b3⟩
          have hT3 := HT2.out.step b3
          obtain ⟨_, _, _, hst3, hbd3⟩ := own_shape hT3.b
          have hk3 := make_calls a7 c7 bs hc7 hm7 (by have := HMB.out.2; omega) (fun s h => by have := HC2.out.2.all s h; omega) w3 hst3 hbd3
          rw [HC2.out.2.ok, ← HEQ.out.2.2.1, ← HEQ.out.2.2.2] at hk3
          have HK3 := Lib.hid hk3
          have hb3 := hT3.below
          clear hk3 hst3 hbd3 hT3 b3 HK2
          go_wp2_with fail
          refine HK3.out.mono ?_
          rintro e w4 ⟨rfl, b4⟩
          have hb4 := bt hb3 b4
          clear b4 hb3 HK3
          have e1 : ((X.size : Int) != (P.size : Int)) = false := bne_eq_false_iff_eq.2 (by omega)
          have e2 : ((R.size : Int) != (P.size : Int)) = false := bne_eq_false_iff_eq.2 (by omega)
          have e3 : ((Q.size : Int) != (P.size : Int)) = false := bne_eq_false_iff_eq.2 (by omega)
          have e4 : ((S.size : Int) != (P.size : Int)) = false := bne_eq_false_iff_eq.2 (by omega)
          have e5 : ((Y.size : Int) != (P.size : Int)) = false := bne_eq_false_iff_eq.2 (by omega)
          have pXP : X.size = P.size := by omega
          have pRP : R.size = P.size := by omega
          have pQP : Q.size = P.size := by omega
          have pSP : S.size = P.size := by omega
          have pYP : Y.size = P.size := by omega
          have pP60 : P.size ≤ 60 := by omega
          have HSZ := Lib.hid (And.intro pXP (And.intro pRP (And.intro pQP (And.intro pSP pYP))))
          clear pXP pRP pQP pSP pYP pP pQ pR pS pX pY
          go_wp2_with fail
          refine (Syn.wakes_calls _).mono ?_
          rintro e w5 ⟨rfl, b5⟩
          have hb5 := bt hb4 b5
          clear b5 hb4
          go_wp2
          go_loopw [159] (fun s159 wz => ∃ j : Nat, j ≤ P.size ∧ s159 = .int .i64 j ∧ Below w.heap.size w wz) (fun i _ => P.size - (intOf i).toNat)
          case atStart => exact ⟨0, Nat.zero_le _, rfl, hb5⟩
          case round =>
            obtain ⟨j, hj, rfl, hbz⟩ := hrel
            by_cases hjt : j < P.size
            · have dlt3 : decide ((j : Int) < (P.size : Int)) = true := decide_eq_true (by omega)
              have z := HSZ.out
              have j0 : (0 : Int) ≤ (j : Int) := by omega
              have jP : (j : Int) < (P.size : Int) := by omega
              have jQ : (j : Int) < (Q.size : Int) := by omega
              have jR : (j : Int) < (R.size : Int) := by omega
              have jS : (j : Int) < (S.size : Int) := by omega
              have jX : (j : Int) < (X.size : Int) := by omega
              have jY : (j : Int) < (Y.size : Int) := by omega
              obtain ⟨x1, h1, u1, k1⟩ := by8_at P j (by omega)
              obtain ⟨x2, h2', u2, k2⟩ := by8_at R j (by omega)
              obtain ⟨x3, h3', u3, k3⟩ := by8_at X j (by omega)
              obtain ⟨y1, h4, u4, k4⟩ := by8_at Q j (by omega)
              obtain ⟨y2, h5, u5, k5⟩ := by8_at S j (by omega)
              obtain ⟨y3, h6, u6, k6⟩ := by8_at Y j (by omega)
              have bt' : ∀ (s : ByteArray) (b : Nat), (by8 s)[j]? = some b → bat s j = b := fun s b h => by unfold bat; rw [List.getD_eq_getElem?_getD, h]; rfl
              have r3 : x3 = x1 ^^^ x2 := by have := HSUM.out.1 j; rw [bt' X x3 k3, bt' P x1 k1, bt' R x2 k2] at this; exact this
              have s3 : y3 = y1 ^^^ y2 := by have := HSUM.out.2 j; rw [bt' Y y3 k6, bt' Q y1 k4, bt' S y2 k5] at this; exact this
              have f1 : Go.bits .xor .u8 (x1 : Int) (x2 : Int) = (x3 : Int) := by rw [r3]; exact xor_u8 x1 x2 h1 h2'
              have f2 : Go.bits .xor .u8 (y1 : Int) (y2 : Int) = (y3 : Int) := by rw [s3]; exact xor_u8 y1 y2 h4 h5
              have f3 : ((x3 : Int) != (x3 : Int)) = false := bne_eq_false_iff_eq.2 rfl
              have f4 : ((y3 : Int) != (y3 : Int)) = false := bne_eq_false_iff_eq.2 rfl
              clear z bt' r3 s3 k1 k2 k3 k4 k5 k6
              go_wp2
              go_quiet (fail)
              go_wp2
              go_roundw
              case measure => simp [intOf]; omega
              case rel => exact ⟨j + 1, by omega, by go_num, bd hbz _⟩
            · have dlt3 : decide ((j : Int) < (P.size : Int)) = false := decide_eq_false (by omega)
              go_wp2
              go_ret
              exact ⟨rfl, hbz⟩
end Go.Proofs.Ytgojbngdncligaa.SyndromeSumsW
