/- The law's all: for each block one of its ways; walked. -/
import Derived.Test.YtahdhkhgokggbaaPair28C
import Derived.Deep.DeepCutAuto
import Derived.Deep.CutBlock
namespace Go.Proofs.Ytahdhkhgokggbaa.Judge
open Go.RowKit Go.Proofs.Ytahdhkhgokggbaa.Mem
open Go.Proofs.YtahdhkhgokggbaaW.PrintWords hiding bt
set_option linter.unusedVariables false
set_option linter.unusedSimpArgs false

theorem may_last {lasts : List ByteArray} {i : Nat} {t : ByteArray} (h : lasts[i]? = some t) (since : Since) : mayR lasts since i t = true := by unfold mayR; rw [h, decide_eq_true rfl]; rfl
theorem may_since {since : Since} {k : Nat} {p : Int × ByteArray} (hp : since[k]? = some p) {i : Nat} (h : p.1 = (i : Int)) (lasts : List ByteArray) : mayR lasts since i p.2 = true := by unfold mayR; rw [any_here hp h rfl, Bool.or_true]
theorem all_next {lasts : List ByteArray} {since : Since} {L : List ByteArray} {k : Nat} {s : ByteArray} (hl : L.length = k) (h : ∀ i s, L[i]? = some s → mayR lasts since i s = true) (hs : mayR lasts since k s = true) : ∀ i u, (L ++ [s])[i]? = some u → mayR lasts since i u = true := by
  intro i u hu
  by_cases hi : i < L.length
  · rw [List.getElem?_append_left hi] at hu; exact h i u hu
  · have h2 := (List.getElem?_eq_some_iff.1 hu).1
    simp at h2
    obtain rfl : i = k := by omega
    rw [List.getElem?_append_right (by omega)] at hu
    simp [hl] at hu
    rw [← hu]; exact hs

set_option maxHeartbeats 8000000 in
set_option maxRecDepth 100000 in
theorem all_calls {w : World} {R : Nat} {Q : Nat → Prop} {now lasts : List ByteArray} {since : Since} {vN vL vS : Value} {gN gL : Nat} (h : Rf w R Q now lasts since vN vL vS gN gL) (hQ : ∀ k, Q k → k < w.heap.size) (hl : lasts.length ≤ 2048) (hs : since.length ≤ 100000)
    (pa : Option Addr) (pl pc : Nat) (hpl : pl ≤ pc) (hpc : pc ≤ 9223372036854775807) (hp : ∀ j, j < pl → ∃ (x : Addr) (m : Nat), pa = some x ∧ m < 256 ∧ w.cell? (x.add j) = some (.int .u8 (m : Nat))) :
    Calls Try.prog 38 #[.pointer (some ⟨R, 0, none⟩), .slice pa pl pc] w fun e w' => ∃ (L : List ByteArray) (v : Value), e = .returned v ∧ L.length = lasts.length ∧ (∀ i s, L[i]? = some s → mayR lasts since i s = true) ∧ w'.ownsRow w.heap.size 9 1 v L.length (L.map Value.string) ∧ Below w.heap.size w w' := by
  obtain ⟨c0, c1, c2⟩ := h.cells
  obtain ⟨cL, hvL, hcL, hcL2⟩ := h.l.shape
  obtain ⟨aS, cS, hvS, hcS, hcS2, hsc⟩ := h.sshape
  rw [hvL] at c1
  rw [hvS] at c2
  obtain ⟨nl, hnl⟩ : ∃ x, x = lasts.length := ⟨_, rfl⟩
  obtain ⟨ns, hns⟩ : ∃ x, x = since.length := ⟨_, rfl⟩
  rw [← hnl] at c1 hl hcL ⊢
  rw [← hns] at c2 hcS hs
  have HNS := Lib.hid (And.intro hns (And.intro hsc (And.intro hnl hp)))
  obtain ⟨i0, hi0, hz0, hz1, hz2⟩ := info_parts str_info
  have HC : Hid (∀ p v, w.cell? p = some v → ∀ wx, Below w.heap.size w wx → wx.cell? p = some v) := Lib.hid (fun p v hp wx hb => by rw [hb.cell (World.block_lt_of_cell? w p hp)]; exact hp)
  have HL : Hid (∀ i s, lasts[i]? = some s → w.cell? ⟨gL, i, none⟩ = some (.string s)) := Lib.hid (fun i s hs => h.l.cell hs)
  have HR := Lib.hid (And.intro c1 c2)
  clear h hvL hvS hnl hns hsc hQ hp c0 c2
  go_enter Try.func38, Try.ntmps38
  go_wp2
  go_loopw [5, 16] (fun s5 s16 wr => ∃ (k : Nat) (L : List ByteArray) (v : Value), k ≤ nl ∧ s16 = .int .i64 k ∧ v = s5 ∧ Hid (L.length = k ∧ ∀ i s, L[i]? = some s → mayR lasts since i s = true) ∧ wr.ownsRow w.heap.size 9 1 v L.length (L.map Value.string) ∧ Below w.heap.size w wr) (fun _ x _ => nl - (intOf x).toNat)
  case atStart => exact ⟨0, [], _, Nat.zero_le _, rfl, rfl, Lib.hid ⟨rfl, fun i s hs => by simp at hs⟩, ⟨rfl, .inl ⟨rfl, rfl⟩⟩, br _⟩
  case round =>
    obtain ⟨k, L, v, hk, rfl, rfl, HLL, hown, hbel⟩ := hrel
    clear c1
    by_cases hlt : k < nl
    · have dlt : decide ((k : Int) < (nl : Int)) = true := decide_eq_true (by omega)
      have ilt : ((k : Int) < (nl : Int)) = True := eq_true (by omega)
      obtain ⟨t, ht⟩ : ∃ t, lasts[k]? = some t := ⟨_, List.getElem?_eq_getElem (by rw [← HNS.out.2.2.1]; exact hlt)⟩
      have ct := HC.out _ _ (HL.out k t ht) wr hbel
      have HMT := Lib.hid (may_last ht since)
      clear ht
      go_upto_if 23 with fail
      go_cut [7] (fun s7 wx => ∃ u : ByteArray, s7 = .string u ∧ Hid (mayR lasts since k u = true) ∧ wx.ownsRow w.heap.size 9 1 v L.length (L.map Value.string) ∧ Below w.heap.size w wx)
      case first =>
        by_cases hp0 : 0 < pl
        · have dp : decide ((0 : Int) < (pl : Int)) = true := decide_eq_true (by omega)
          have ip : ((0 : Int) < (pl : Int)) = True := eq_true (by omega)
          have hkp : k % pl < pl := Nat.mod_lt _ hp0
          obtain ⟨x, m, rfl, hm, hcm⟩ := HNS.out.2.2.2 (k % pl) hkp
          have cm := HC.out _ _ hcm wr hbel
          have c2 := HC.out _ _ HR.out.2 wr hbel
          obtain ⟨kp, hkpe⟩ : ∃ kp, kp = k % pl := ⟨_, rfl⟩
          have tm : (k : Int) % (pl : Int) = (kp : Int) := by rw [hkpe]; rfl
          rw [← hkpe] at cm hkp
          clear hkpe hcm
          have HO := Lib.hid (And.intro hown hbel)
          clear hown hbel
          go_wp2
          go_loopw [7, 8, 37] (fun s7 s8 s37 wy => ∃ (j m : Nat) (u : ByteArray), j ≤ ns ∧ m < 256 ∧ s37 = .int .i64 j ∧ s7 = .string u ∧ s8 = .int .i64 m ∧ Hid (mayR lasts since k u = true) ∧ Below wr.heap.size wr wy) (fun _ _ x _ => ns - (intOf x).toNat)
          case atStart => exact ⟨0, m, t, Nat.zero_le _, hm, rfl, rfl, rfl, HMT, br _⟩
          case round =>
            obtain ⟨j, m, u, hj, hm, rfl, rfl, rfl, HU, hby⟩ := hrel
            by_cases hjt : j < ns
            · have dlt2 : decide ((j : Int) < (ns : Int)) = true := decide_eq_true (by omega)
              have ilt2 : ((j : Int) < (ns : Int)) = True := eq_true (by omega)
              obtain ⟨p, hp⟩ : ∃ p, since[j]? = some p := ⟨_, List.getElem?_eq_getElem (by rw [← HNS.out.1]; exact hjt)⟩
              obtain ⟨gs, rfl, hp0', hp1'⟩ := HNS.out.2.1 j p hp
              have q0 := HC.out _ _ hp0' _ (bt HO.out.2 hby)
              have q1 := HC.out _ _ hp1' _ (bt HO.out.2 hby)
              have e2 : j * 2 = 2 * j := Nat.mul_comm _ _
              have HMS := fun (e : p.1 = (k : Int)) => may_since hp e lasts
              obtain ⟨o, ho⟩ : ∃ o, o = 2 * j := ⟨_, rfl⟩
              rw [← ho] at q0 q1 e2
              obtain ⟨pb, pd⟩ := p
              dsimp only at q0 q1 HMS
              have HMS2 := Lib.hid HMS
              clear hp hp0' hp1' ho HMS ct cm c2
              by_cases h1 : pb = (k : Int)
              · subst h1
                by_cases hm0 : m = 0
                · subst hm0
                  have dm : decide ((0 : Int) < ((0 : Nat) : Int)) = false := decide_eq_false (by omega)
                  go_wp2
                  go_roundw
                  case measure => simp [intOf]; omega
                  case rel => exact ⟨j + 1, 0, u, by omega, by omega, by go_num, rfl, rfl, HU, ba hby _⟩
                · obtain ⟨m', rfl⟩ : ∃ m', m = m' + 1 := ⟨m - 1, by omega⟩
                  have dm : decide ((0 : Int) < ((m' + 1 : Nat) : Int)) = true := decide_eq_true (by omega)
                  have HP := Lib.hid (HMS2.out rfl)
                  go_wp2
                  go_roundw
                  case measure => simp [intOf]; omega
                  case rel => exact ⟨j + 1, m', pd, by omega, by omega, by go_num, rfl, by go_num, HP, ba hby _⟩
              · have r1 : (pb == (k : Int)) = false := beq_eq_false_iff_ne.2 h1
                go_wp2
                go_roundw
                case measure => simp [intOf]; omega
                case rel => exact ⟨j + 1, m, u, by omega, by omega, by go_num, rfl, rfl, HU, ba hby _⟩
            · obtain rfl : j = ns := by omega
              have dlt2 : decide ((j : Int) < (j : Int)) = false := decide_eq_false (by omega)
              go_wp2
              go_meet
              case rel => exact ⟨u, rfl, HU, own_same HO.out.1 (fun q hq => hby.block q (HO.out.1.lt q hq).2), bt HO.out.2 hby⟩
        · have dp : decide ((0 : Int) < (pl : Int)) = false := decide_eq_false (by omega)
          go_wp2
          go_meet
          case rel => exact ⟨t, rfl, HMT, hown, hbel⟩
      case rest =>
        obtain ⟨u, rfl, HU, hown2, hbel2⟩ := hcut
        clear hown hbel ct
        have hL30 := HLL.out.1
        go_wp2_with (at_builtin; refine wpList_append_own_at _ rfl (.tmp 54) (.tmp 56) 32 rfl w.heap.size 9 i0 (.string ⟨#[]⟩) 1 16 Try.underlying32 hi0 hz0 hz1 hz2 rfl (by decide) v L.length (L.map Value.string) rfl (hown2.alloc _) ⟨wc.heap.size, 0, none⟩ 1 1 [.string u] rfl rfl ?x1 ?x2 ?x3 ?x4 ?x5 ?_)
        case x1 => intro j y hy; cases j with | zero => simp at hy; subst hy; exact (Blk.new wc #[.string u] 9).cell 0 | succ j => simp at hy
        case x2 => intro y hy; simp at hy; subst hy; rfl
        case x3 => unfold maxLen; omega
        case x4 => omega
        case x5 => have := hbel2.size; simp; omega
        intro v' w5 hown3 hgrow hnil hat
        have HL3 := Lib.hid (And.intro hL30 trivial)
        have HE : Hid ((L ++ [u]).length = k + 1 ∧ ∀ i s, (L ++ [u])[i]? = some s → mayR lasts since i s = true) := Lib.hid ⟨by rw [List.length_append, hL30]; rfl, all_next hL30 HLL.out.2 HU.out⟩
        have HB5 := Lib.hid (bgrow (ba hbel2 _) hgrow (fun q hq => (hown2.lt q hq).1))
        have HO5 : Hid (w5.ownsRow w.heap.size 9 1 v' (L ++ [u]).length ((L ++ [u]).map Value.string)) := Lib.hid (by rw [List.length_append, List.map_append, hL30]; exact hown3)
        clear hL30 hown3 hgrow hnil hat hown2 hbel2
        go_wp2
        go_roundw
        case measure => simp [intOf]; omega
        case rel => exact ⟨k + 1, L ++ [u], v', by omega, by go_num, rfl, HE, HO5.out, HB5.out⟩
    · obtain rfl : k = nl := by omega
      have dlt : decide ((k : Int) < (k : Int)) = false := decide_eq_false (by omega)
      go_wp2
      go_ret
      exact ⟨L, v, rfl, HLL.out.1, HLL.out.2, hown, hbel⟩
end Go.Proofs.Ytahdhkhgokggbaa.Judge
