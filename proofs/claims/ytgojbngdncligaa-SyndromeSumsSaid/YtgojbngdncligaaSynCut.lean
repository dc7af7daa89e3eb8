/- trunnionlaw04.cut walked: texts of at most so many bytes; all as long as the first one, if 'even' is set. -/
import Derived.Test.YtgojbngdncligaaSynOps
import Derived.Maps.AppendAt
import Derived.Deep.RegionHeld3
import Derived.Deep.DeepCutAuto
import Derived.Deep.CutBlock
namespace Go.Proofs.Ytgojbngdncligaa.SynCut
open Go.Proofs.Ytgojbngdncligaa.BulkLimitsW
open Go.RowKit Go.Proofs.Ytgojbngdncligaa.Mem Go.Proofs.Ytgojbngdncligaa.Lanes Go.Proofs.Ytgojbngdncligaa.Words Go.Proofs.Ytgojbngdncligaa.Bulk
open Go.Proofs.YtgojbngdncligaaW.PrintWords hiding bt
set_option linter.unusedVariables false
set_option linter.unusedSimpArgs false

/-- The text's first 60 bytes; as long as the first one of those taken. -/
def trim (even : Bool) (acc : List ByteArray) (s : ByteArray) : ByteArray :=
  match acc with
  | [] => s.extract 0 (min s.size 60)
  | t :: _ => bif even then (s.extract 0 (min s.size 60) ++ noughts 60).extract 0 t.size else s.extract 0 (min s.size 60)
def step (even : Bool) (acc : List ByteArray) (s : ByteArray) : List ByteArray := acc ++ [trim even acc s]
def cutL (even : Bool) (ss : List ByteArray) : List ByteArray := (ss.take 34).foldl (step even) []

theorem bg' {a b c : World} {row : Option Nat} (h : Below a.heap.size a b) (k : b.grownBy c row) (hr : ∀ q, row = some q → a.heap.size ≤ q) : Below a.heap.size a c :=
  ⟨k.os.trans h.os, k.tape.trans h.tape, k.output.trans h.output, Nat.le_trans h.size k.size, fun i hi => (k.block i (Nat.lt_of_lt_of_le hi h.size) (fun e => by have := hr i e.symm; omega)).trans (h.block i hi)⟩
theorem str_info : (Try.prog.info? 9).map (fun i => (i.zero, i.size, i.bytes)) = some (some (.string ⟨#[]⟩), 1, 16) := by kernel_rfl
theorem foldl_len (e : Bool) : ∀ (l acc : List ByteArray), (l.foldl (step e) acc).length = acc.length + l.length
  | [], _ => rfl
  | s :: r, acc => by
    rw [List.foldl_cons, foldl_len e r]
    unfold step
    simp; omega
set_option maxHeartbeats 4000000 in
set_option maxRecDepth 100000 in
theorem cut_false (a : Option Addr) (c : Nat) (ss : List ByteArray) (hn : ss.length ≤ c) (hcm : c ≤ 9223372036854775807) (hz : ∀ s ∈ ss, s.size ≤ 9223372036854775807) (w : World) (h : Strs w a ss) :
    Calls Try.prog 25 #[.slice a ss.length c, .bool false] w fun e w' => ∃ v, e = .returned v ∧ w'.ownsRow w.heap.size 9 1 v (cutL false ss).length ((cutL false ss).map Value.string) ∧ Below w.heap.size w w' := by
  have HH := Lib.hid (And.intro h hz)
  obtain ⟨len, hlen⟩ : ∃ len, len = ss.length := ⟨_, rfl⟩
  rw [← hlen] at hn ⊢
  have HL := Lib.hid hlen
  clear h hz hlen
  obtain ⟨i0, hi, hz0, hz1, hz2⟩ := info_parts str_info
  go_enter Try.func25, Try.ntmps25
  go_upto_region 2 with fail
  go_cut [12, 13, 14] (fun s12 s13 s14 wx => ∃ n c' : Nat, Hid (n = min len 34) ∧ s12 = .slice a n c' ∧ s13 = .int .i64 n ∧ s14 = .int .i64 0 ∧ w = wx)
  case first =>
    by_cases h5 : 34 < len
    · have d5 : decide ((34 : Int) < (len : Int)) = true := decide_eq_true (by omega)
      go_wp2
      go_meet
      case rel => exact ⟨34, c, Lib.hid (by omega), by first | rfl | (congr 1; omega), by first | rfl | (congr 1; omega), rfl, rfl⟩
    · have d5 : decide ((34 : Int) < (len : Int)) = false := decide_eq_false (by omega)
      go_wp2
      go_meet
      case rel => exact ⟨len, c, Lib.hid (by omega), by first | rfl | (congr 1; omega), by first | rfl | (congr 1; omega), rfl, rfl⟩
  case rest =>
    obtain ⟨n, c', HN, rfl, rfl, rfl, rfl⟩ := hcut
    go_wp2
    go_loopw [5, 14] (fun x5 x14 wr => ∃ (k : Nat) (acc : List ByteArray) (v : Value), k ≤ n ∧ x14 = .int .i64 k ∧ v = x5 ∧ Hid (acc = (ss.take k).foldl (step false) [] ∧ ∀ s ∈ acc, s.size ≤ 60) ∧ wr.ownsRow w.heap.size 9 1 v acc.length (acc.map Value.string) ∧ Below w.heap.size w wr) (fun _ i _ => n - (intOf i).toNat)
    case atStart => exact ⟨0, [], .slice none 0 0, Nat.zero_le _, rfl, rfl, Lib.hid ⟨rfl, fun s hs => by simp at hs⟩, ⟨rfl, .inl ⟨rfl, rfl⟩⟩, br _⟩
    case round =>
      obtain ⟨k, acc, v, hk, rfl, rfl, HA, hown, hbel⟩ := hrel
      by_cases hlt : k < n
      · have dlt : decide ((k : Int) < (n : Int)) = true := decide_eq_true (by omega)
        have ilt : ((k : Int) < (n : Int)) = True := eq_true (by omega)
        have hn2 := HN.out
        have hl2 := HL.out
        obtain ⟨s, hs⟩ : ∃ s, ss[k]? = some s := ⟨_, List.getElem?_eq_getElem (by omega)⟩
        clear hn2 hl2
        obtain ⟨x, rfl, hc⟩ := HH.out.1 k s hs
        have hc' : wr.cell? (x.add k) = some (.string s) := by rw [hbel.cell (World.block_lt_of_cell? w _ hc)]; exact hc
        have hsz := HH.out.2 s (List.mem_of_getElem? hs)
        have HS := Lib.hid hs
        clear hs hc
        go_upto_region 5 with fail
        go_cut [7] (fun s7 wx => ∃ u : ByteArray, Hid (u = s.extract 0 (min s.size 60)) ∧ u.size ≤ 60 ∧ s7 = .string u ∧ wr = wx)
        case first =>
          by_cases h5 : 60 < s.size
          · have d5 : decide ((60 : Int) < (s.size : Int)) = true := decide_eq_true (by omega)
            go_wp2
            go_meet
            case rel => exact ⟨s.extract 0 (min s.size 60), Lib.hid rfl, by rw [ByteArray.size_extract]; omega, by first | rfl | (congr 1; congr 1; omega), rfl⟩
          · have d5 : decide ((60 : Int) < (s.size : Int)) = false := decide_eq_false (by omega)
            go_wp2
            go_meet
            case rel => exact ⟨s.extract 0 (min s.size 60), Lib.hid rfl, by rw [ByteArray.size_extract]; omega, by first | rfl | (congr 1; congr 1; omega), rfl⟩
        case rest =>
          obtain ⟨u, HU, hu, rfl, rfl⟩ := hcut
          go_upto_if 28 with fail
          go_cut [7] (fun s7 wx => ∃ u2 : ByteArray, Hid (u2 = trim false acc s) ∧ u2.size ≤ 60 ∧ s7 = .string u2 ∧ wx.ownsRow w.heap.size 9 1 v acc.length (acc.map Value.string) ∧ Below w.heap.size w wx)
          case first =>
            have ht : u = trim false acc s := by rw [HU.out]; unfold trim; cases acc <;> rfl
            have HT := Lib.hid ht
            clear ht
            go_wp2
            go_meet
            case rel => exact ⟨u, HT, hu, rfl, hown, hbel⟩
          case rest =>
            obtain ⟨u2, HU2, hu2, rfl, hown2, hbel2⟩ := hcut
            have hal : acc.length = k := by
              rw [HA.out.1]
              have hn2 := HN.out
              have hl2 := HL.out
              rw [foldl_len, List.length_take, List.length_nil]
              omega
            have hk12 : k < 34 := by have := HN.out; omega
            have HAL := Lib.hid hal
            clear hal
            go_wp2_with (at_builtin; refine wpList_append_own_at _ rfl (.tmp 38) (.tmp 40) 22 rfl w.heap.size 9 i0 (.string ⟨#[]⟩) 1 16 Try.underlying22 hi hz0 hz1 hz2 rfl (by decide) v acc.length (acc.map Value.string) rfl (hown2.alloc _) ⟨wc.heap.size, 0, none⟩ 1 1 [.string u2] rfl rfl ?c1 ?c2 ?c3 ?c4 ?c5 ?_)
            case c1 => intro j x hx; cases j with | zero => simp at hx; subst hx; simp [Addr.add] | succ j => simp at hx
            case c2 => intro x hx; simp at hx; subst hx; rfl
            case c3 => have := HAL.out; unfold maxLen; omega
            case c4 => have := HAL.out; omega
            case c5 => have := hbel2.size; simp; omega
            intro v' w1 hown3 hgrow hnil hat
            go_wp2
            go_roundw
            case measure => simp [intOf]; omega
            case rel =>
              have hs2 : (ss.take (k + 1)).foldl (step false) [] = acc ++ [u2] := by rw [List.take_add_one, HS.out, List.foldl_append, ← HA.out.1, HU2.out]; rfl
              have hl1 : (acc ++ [u2]).length = acc.length + 1 := by simp
              exact ⟨k + 1, acc ++ [u2], v', by omega, by go_num, rfl, Lib.hid ⟨hs2.symm, fun x hx => by
                rcases List.mem_append.1 hx with h | h
                · exact HA.out.2 x h
                · simp at h; rw [h]; exact hu2⟩, by rw [hl1, List.map_append]; exact hown3, bg' (ba hbel2 _) hgrow (fun q hq => (hown2.lt q hq).1)⟩
      · obtain rfl : k = n := by omega
        have hcut : cutL false ss = acc := by
          have hn2 := HN.out
          have hl2 := HL.out
          rw [HA.out.1]
          unfold cutL
          congr 1
          by_cases h12 : len ≤ 34
          · rw [List.take_of_length_le (by omega), List.take_of_length_le (by omega)]
          · rw [show k = 34 by omega]
        have HC := Lib.hid hcut
        clear hcut
        have dlt : decide ((k : Int) < (k : Int)) = false := decide_eq_false (by omega)
        go_wp2
        go_ret
        exact ⟨_, rfl, by rw [HC.out]; exact hown, hbel⟩
set_option maxHeartbeats 4000000 in
set_option maxRecDepth 100000 in
theorem cut_true (a : Option Addr) (c : Nat) (ss : List ByteArray) (hn : ss.length ≤ c) (hcm : c ≤ 9223372036854775807) (hz : ∀ s ∈ ss, s.size ≤ 9223372036854775807) (w : World) (h : Strs w a ss) :
    Calls Try.prog 25 #[.slice a ss.length c, .bool true] w fun e w' => ∃ v, e = .returned v ∧ w'.ownsRow w.heap.size 9 1 v (cutL true ss).length ((cutL true ss).map Value.string) ∧ Below w.heap.size w w' := by
  have HH := Lib.hid (And.intro h hz)
  obtain ⟨len, hlen⟩ : ∃ len, len = ss.length := ⟨_, rfl⟩
  rw [← hlen] at hn ⊢
  have HL := Lib.hid hlen
  clear h hz hlen
  obtain ⟨i0, hi, hz0, hz1, hz2⟩ := info_parts str_info
  go_enter Try.func25, Try.ntmps25
  go_upto_region 2 with fail
  go_cut [12, 13, 14] (fun s12 s13 s14 wx => ∃ n c' : Nat, Hid (n = min len 34) ∧ s12 = .slice a n c' ∧ s13 = .int .i64 n ∧ s14 = .int .i64 0 ∧ w = wx)
  case first =>
    by_cases h5 : 34 < len
    · have d5 : decide ((34 : Int) < (len : Int)) = true := decide_eq_true (by omega)
      go_wp2
      go_meet
      case rel => exact ⟨34, c, Lib.hid (by omega), by first | rfl | (congr 1; omega), by first | rfl | (congr 1; omega), rfl, rfl⟩
    · have d5 : decide ((34 : Int) < (len : Int)) = false := decide_eq_false (by omega)
      go_wp2
      go_meet
      case rel => exact ⟨len, c, Lib.hid (by omega), by first | rfl | (congr 1; omega), by first | rfl | (congr 1; omega), rfl, rfl⟩
  case rest =>
    obtain ⟨n, c', HN, rfl, rfl, rfl, rfl⟩ := hcut
    go_wp2
    go_loopw [5, 14] (fun x5 x14 wr => ∃ (k : Nat) (acc : List ByteArray) (v : Value), k ≤ n ∧ x14 = .int .i64 k ∧ v = x5 ∧ Hid (acc = (ss.take k).foldl (step true) [] ∧ ∀ s ∈ acc, s.size ≤ 60) ∧ wr.ownsRow w.heap.size 9 1 v acc.length (acc.map Value.string) ∧ Below w.heap.size w wr) (fun _ i _ => n - (intOf i).toNat)
    case atStart => exact ⟨0, [], .slice none 0 0, Nat.zero_le _, rfl, rfl, Lib.hid ⟨rfl, fun s hs => by simp at hs⟩, ⟨rfl, .inl ⟨rfl, rfl⟩⟩, br _⟩
    case round =>
      obtain ⟨k, acc, v, hk, rfl, rfl, HA, hown, hbel⟩ := hrel
      by_cases hlt : k < n
      · have dlt : decide ((k : Int) < (n : Int)) = true := decide_eq_true (by omega)
        have ilt : ((k : Int) < (n : Int)) = True := eq_true (by omega)
        have hn2 := HN.out
        have hl2 := HL.out
        obtain ⟨s, hs⟩ : ∃ s, ss[k]? = some s := ⟨_, List.getElem?_eq_getElem (by omega)⟩
        clear hn2 hl2
        obtain ⟨x, rfl, hc⟩ := HH.out.1 k s hs
        have hc' : wr.cell? (x.add k) = some (.string s) := by rw [hbel.cell (World.block_lt_of_cell? w _ hc)]; exact hc
        have hsz := HH.out.2 s (List.mem_of_getElem? hs)
        have HS := Lib.hid hs
        clear hs hc
        go_upto_region 5 with fail
        go_cut [7] (fun s7 wx => ∃ u : ByteArray, Hid (u = s.extract 0 (min s.size 60)) ∧ u.size ≤ 60 ∧ s7 = .string u ∧ wr = wx)
        case first =>
          by_cases h5 : 60 < s.size
          · have d5 : decide ((60 : Int) < (s.size : Int)) = true := decide_eq_true (by omega)
            go_wp2
            go_meet
            case rel => exact ⟨s.extract 0 (min s.size 60), Lib.hid rfl, by rw [ByteArray.size_extract]; omega, by first | rfl | (congr 1; congr 1; omega), rfl⟩
          · have d5 : decide ((60 : Int) < (s.size : Int)) = false := decide_eq_false (by omega)
            go_wp2
            go_meet
            case rel => exact ⟨s.extract 0 (min s.size 60), Lib.hid rfl, by rw [ByteArray.size_extract]; omega, by first | rfl | (congr 1; congr 1; omega), rfl⟩
        case rest =>
          obtain ⟨u, HU, hu, rfl, rfl⟩ := hcut
          go_upto_if 28 with fail
          go_cut [7] (fun s7 wx => ∃ u2 : ByteArray, Hid (u2 = trim true acc s) ∧ u2.size ≤ 60 ∧ s7 = .string u2 ∧ wx.ownsRow w.heap.size 9 1 v acc.length (acc.map Value.string) ∧ Below w.heap.size w wx)
          case first =>
            by_cases hk0 : k = 0
            · subst hk0
              have ht : u = trim true acc s := by rw [HU.out, HA.out.1]; rfl
              have HT := Lib.hid ht
              clear ht
              go_wp2
              go_meet
              case rel => exact ⟨u, HT, hu, rfl, hown, hbel⟩
            · have hgt : decide ((0 : Int) < (k : Int)) = true := decide_eq_true (by omega)
              have igt : (0 : Int) < (k : Int) := by omega
              have hal : acc.length = k := by
                rw [HA.out.1]
                have hn2 := HN.out
                have hl2 := HL.out
                rw [foldl_len, List.length_take, List.length_nil]
                omega
              obtain ⟨t0, r, hacc⟩ : ∃ t0 r, acc = t0 :: r := by
                cases acc with
                | nil => simp at hal; omega
                | cons t0 r => exact ⟨t0, r, rfl⟩
              have ht0 : t0.size ≤ 60 := HA.out.2 t0 (by rw [hacc]; simp)
              obtain ⟨g, cap, hv, hcell, hbg, hlg, hkc, hcm2⟩ : ∃ g cap, v = .slice (some ⟨g, 0, none⟩) k cap ∧ wr.cell? ⟨g, 0, none⟩ = some (.string t0) ∧ w.heap.size ≤ g ∧ g < wr.heap.size ∧ k ≤ cap ∧ cap ≤ 9223372036854775807 := by
                rcases hown.2 with ⟨hv, he⟩ | ⟨g, cap, cur, hv, hbg, hg, hnc, hcm, hcs, htake⟩
                · rw [hacc] at he; simp at he
                · refine ⟨g, cap, by rw [hv, hal], ?_, hbg, (Array.getElem?_eq_some_iff.1 hg).1, by omega, by unfold maxLen at hcm; omega⟩
                  have h0 := hown.cells (g := g) (by rw [hv]; rfl) 0 (.string t0) (by rw [hacc]; rfl)
                  simpa [Addr.add] using h0
              have ht : (u ++ noughts 60).extract 0 t0.size = trim true acc s := by rw [hacc, HU.out]; rfl
              obtain ⟨Z, hZ⟩ : ∃ Z, Z = noughts 60 := ⟨_, rfl⟩
              rw [← hZ] at ht
              have hZs : Z.size = 60 := by rw [hZ, noughts_size]
              have hmk : (Instr.makeSlice 41 (.int .i64 60) (.int .i64 60)).run Try.prog wr.drew = .ok (.slice (some ⟨wr.heap.size, 0, none⟩) 60 60) (wr.alloc (.cells (rowC [] 60) 5)).drew := long_made wr.drew 60 (by omega)
              have hcv : (convert 41 9 (.slice (some ⟨wr.heap.size, 0, none⟩) 60 60)).run Try.prog (wr.alloc (.cells (rowC [] 60) 5)).drew = .ok (.string (noughts 60)) (wr.alloc (.cells (rowC [] 60) 5)).drew := long_text wr.drew 60
              rw [← hZ] at hcv
              obtain ⟨R, hR⟩ : ∃ R, R = rowC [] 60 := ⟨_, rfl⟩
              rw [← hR] at hmk hcv
              have HT := Lib.hid (And.intro ht (And.intro hal hacc))
              subst hv
              clear ht hal hacc hZ hR
              go_upto_region 7 with fail
              go_region
              go_wp2
              go_meet
              case rel => exact ⟨(u ++ Z).extract 0 t0.size, Lib.hid HT.out.1, by rw [ByteArray.size_extract]; omega, rfl, hown.alloc _, bd1 (ba hbel _)⟩
          case rest =>
            obtain ⟨u2, HU2, hu2, rfl, hown2, hbel2⟩ := hcut
            have hal : acc.length = k := by
              rw [HA.out.1]
              have hn2 := HN.out
              have hl2 := HL.out
              rw [foldl_len, List.length_take, List.length_nil]
              omega
            have hk12 : k < 34 := by have := HN.out; omega
            have HAL := Lib.hid hal
            clear hal
            go_wp2_with (at_builtin; refine wpList_append_own_at _ rfl (.tmp 38) (.tmp 40) 22 rfl w.heap.size 9 i0 (.string ⟨#[]⟩) 1 16 Try.underlying22 hi hz0 hz1 hz2 rfl (by decide) v acc.length (acc.map Value.string) rfl (hown2.alloc _) ⟨wc.heap.size, 0, none⟩ 1 1 [.string u2] rfl rfl ?c1 ?c2 ?c3 ?c4 ?c5 ?_)
            case c1 => intro j x hx; cases j with | zero => simp at hx; subst hx; simp [Addr.add] | succ j => simp at hx
            case c2 => intro x hx; simp at hx; subst hx; rfl
            case c3 => have := HAL.out; unfold maxLen; omega
            case c4 => have := HAL.out; omega
            case c5 => have := hbel2.size; simp; omega
            intro v' w1 hown3 hgrow hnil hat
            go_wp2
            go_roundw
            case measure => simp [intOf]; omega
            case rel =>
              have hs2 : (ss.take (k + 1)).foldl (step true) [] = acc ++ [u2] := by rw [List.take_add_one, HS.out, List.foldl_append, ← HA.out.1, HU2.out]; rfl
              have hl1 : (acc ++ [u2]).length = acc.length + 1 := by simp
              exact ⟨k + 1, acc ++ [u2], v', by omega, by go_num, rfl, Lib.hid ⟨hs2.symm, fun x hx => by
                rcases List.mem_append.1 hx with h | h
                · exact HA.out.2 x h
                · simp at h; rw [h]; exact hu2⟩, by rw [hl1, List.map_append]; exact hown3, bg' (ba hbel2 _) hgrow (fun q hq => (hown2.lt q hq).1)⟩
      · obtain rfl : k = n := by omega
        have hcut : cutL true ss = acc := by
          have hn2 := HN.out
          have hl2 := HL.out
          rw [HA.out.1]
          unfold cutL
          congr 1
          by_cases h12 : len ≤ 34
          · rw [List.take_of_length_le (by omega), List.take_of_length_le (by omega)]
          · rw [show k = 34 by omega]
        have HC := Lib.hid hcut
        clear hcut
        have dlt : decide ((k : Int) < (k : Int)) = false := decide_eq_false (by omega)
        go_wp2
        go_ret
        exact ⟨_, rfl, by rw [HC.out]; exact hown, hbel⟩
theorem cut_calls (a : Option Addr) (c : Nat) (ss : List ByteArray) (even : Bool) (hn : ss.length ≤ c) (hcm : c ≤ 9223372036854775807) (hz : ∀ s ∈ ss, s.size ≤ 9223372036854775807) (w : World) (h : Strs w a ss) :
    Calls Try.prog 25 #[.slice a ss.length c, .bool even] w fun e w' => ∃ v, e = .returned v ∧ w'.ownsRow w.heap.size 9 1 v (cutL even ss).length ((cutL even ss).map Value.string) ∧ Below w.heap.size w w' := by
  cases even with
  | false => exact cut_false a c ss hn hcm hz w h
  | true => exact cut_true a c ss hn hcm hz w h
end Go.Proofs.Ytgojbngdncligaa.SynCut
