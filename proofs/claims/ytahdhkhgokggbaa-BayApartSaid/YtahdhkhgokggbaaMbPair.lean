/- A member and the document's: are both the same? Walked. -/
import Derived.Test.YtahdhkhgokggbaaRmRot
import Derived.Test.YtahdhkhgokggbaaMbActs
import Derived.Deep.QuietTactic
import Derived.BigQuiet
namespace Go.Proofs.Ytahdhkhgokggbaa.Member
open Go.RowKit Go.Proofs.Ytahdhkhgokggbaa.Mem Go.Proofs.Ytahdhkhgokggbaa.Sep Go.Proofs.Ytahdhkhgokggbaa.Opn
open Go.Proofs.YtahdhkhgokggbaaW.PrintWords hiding bt
set_option linter.unusedVariables false
set_option linter.unusedSimpArgs false

theorem own_slice {w : World} {base : Nat} {e : TypeId} {size n : Nat} {v : Value} {xs : List Value} (h : w.ownsRow base e size v n xs) : ∃ a c, v = .slice a n c := by
  rcases h.2 with ⟨rfl, rfl⟩ | ⟨g, cap, cur, rfl, _⟩
  · exact ⟨_, _, rfl⟩
  · exact ⟨_, _, rfl⟩
section
variable {w0 w : World} {F G : Nat} {m : Mb} {L : List Asn} {n : Nat}
set_option maxHeartbeats 8000000 in
set_option maxRecDepth 100000 in
theorem same_calls (h : Sp w0 (member F n m :: rmem G n m :: L) w) (hq : m.q.length < 1000000) :
    Calls Try.prog 40 #[.pointer (some ⟨F, 0, none⟩), .pointer (some ⟨G, 0, none⟩)] w fun e w' => e = .returned (.bool true) ∧ Sp w0 (member F n m :: rmem G n m :: L) w' := by
  have HW := Lib.hid (waiting_calls h hq)
  have HO := Lib.hid (rmOk (h.front 1 rfl))
  clear h
  go_enter Try.func40, Try.ntmps40
  go_wp2_with fail
  refine HW.out.mono ?_
  rintro e w1 ⟨v, rfl, h1⟩
  obtain ⟨va, vc, rfl⟩ := own_slice (h1.row (List.mem_cons_self ..))
  obtain ⟨a, c, qa, qc, h2⟩ := rmSlices (h1.front 2 rfl)
  have h3 := (h2.front 4 rfl)
  have h3 : Sp w0 (member F n m :: blk G (rbox m (.slice a n c) (.slice qa m.q.length qc)) 82 :: row 9 1 (.slice a n c) n (strl m.las) :: row 146 2 (.slice qa m.q.length qc) m.q.length (wcells m.q) :: row 3 1 (.slice va m.q.length vc) m.q.length (ints m.places) :: L) w1 := h3
  obtain ⟨N, hN⟩ : ∃ N, N = m.q.length := ⟨_, rfl⟩
  rw [← hN] at h3 ⊢
  have HN := Lib.hid hN
  have hqN : N < 1000000 := by omega
  have HL := Lib.hid (show (wcells m.q).length = N * 2 by rw [wcells_length, hN])
  obtain ⟨d, hd⟩ : ∃ d, d = m.dead := ⟨_, rfl⟩
  have HD := Lib.hid hd
  clear h1 h2 hN HW hq hd
  have h4 := h3.drew
  have hb := h4.blk (b := G) (C := rbox m (.slice a n c) (.slice qa N qc)) (T := 82) (by simp)
  go_upto_region 2 with fail
  go_cut [61] (fun s61 wx => s61 = .bool false ∧ Sp w0 (member F n m :: blk G (rbox m (.slice a n c) (.slice qa N qc)) 82 :: row 9 1 (.slice a n c) n (strl m.las) :: row 146 2 (.slice qa N qc) N (wcells m.q) :: row 3 1 (.slice va N vc) N (ints m.places) :: L) wx)
  case first =>
    go_region_held3 (fun w' => w'.cell? ⟨G, 0, none⟩ = some (.slice a n c) ∧ w'.cell? ⟨G, 1, none⟩ = some (.slice qa N qc) ∧ w'.cell? ⟨G, 2, none⟩ = some (.bool m.dead) ∧ w'.cell? ⟨G, 3, none⟩ = some (.int .i64 m.r) ∧ w'.cell? ⟨G, 4, none⟩ = some (.int .i64 m.w) ∧ w'.cell? ⟨G, 5, none⟩ = some (.int .i64 m.f) ∧ w'.cell? ⟨G, 6, none⟩ = some (.int .i64 m.p))
      (first | assumption | exact ⟨Blk.cell hb 0, Blk.cell hb 1, Blk.cell hb 2, Blk.cell hb 3, Blk.cell hb 4, Blk.cell hb 5, Blk.cell hb 6⟩)
      (first
        | (go_at_call 45; refine (dead_calls h4).mono ?_; rintro e w' ⟨rfl, rfl⟩)
        | (go_at_call 47; refine (size_calls h4).mono ?_; rintro e w' ⟨rfl, rfl⟩)
        | (go_at_call 48; refine (counts_calls h4).mono ?_; rintro e w2 ⟨rfl, h4⟩; have hb := h4.blk (b := G) (C := rbox m (.slice a n c) (.slice qa N qc)) (T := 82) (by simp)))
    all_goals go_wp2
    all_goals go_meet
    all_goals exact ⟨rfl, h4⟩
  case rest =>
    obtain ⟨rfl, h5⟩ := hcut
    clear h3 h4 hb
    go_wp2
    go_loopw [64] (fun x64 wr => ∃ k : Nat, k ≤ N ∧ x64 = .int .i64 k ∧ Sp w0 (member F n m :: blk G (rbox m (.slice a n c) (.slice qa N qc)) 82 :: row 9 1 (.slice a n c) n (strl m.las) :: row 146 2 (.slice qa N qc) N (wcells m.q) :: row 3 1 (.slice va N vc) N (ints m.places) :: L) wr) (fun i _ => N - (intOf i).toNat)
    case atStart => exact ⟨0, Nat.zero_le _, rfl, h5⟩
    case round =>
      clear h5
      obtain ⟨k, hk, rfl, h6⟩ := hrel
      by_cases hlt : k < N
      · have dlt : decide ((k : Int) < (N : Int)) = true := decide_eq_true (by omega)
        have i1 : (k : Int) < (N : Int) := by omega
        obtain ⟨x, hx⟩ : ∃ x, m.q[k]? = some x := ⟨_, List.getElem?_eq_getElem (by rw [← HN.out]; exact hlt)⟩
        obtain ⟨w1', w2'⟩ := wcells_at hx
        have hxp : (ints m.places)[k]? = some (.int .i64 (x.1 : Nat)) := by
          unfold ints Mb.places
          rw [List.getElem?_map, List.getElem?_map, hx]; rfl
        obtain ⟨g1, rfl, e0⟩ := row_cell (h6.row (v := .slice qa N qc) (n := N) (xs := wcells m.q) (T := 146) (size := 2) (by simp)) w1'
        obtain ⟨g2, rfl, e1⟩ := row_cell (h6.row (v := .slice va N vc) (n := N) (xs := ints m.places) (T := 3) (size := 1) (by simp)) hxp
        have c1 : _ = some (Value.slice (some ⟨g1, 0, none⟩) N qc) := (h6.blk (b := G) (C := rbox m (.slice a n c) (.slice (some ⟨g1, 0, none⟩) N qc)) (T := 82) (by simp)).cell 1
        obtain ⟨x1, x2⟩ := x
        dsimp only at e0 e1
        have h7 := h6.drew
        have H6 := Lib.hid h7
        clear h6 h7 hx w1' w2' hxp
        go_wp2
        go_region
        all_goals go_wp2
        all_goals go_roundw
        case measure => simp [intOf]; omega
        case rel => exact ⟨k + 1, by omega, by go_num, H6.out⟩
      · obtain rfl : k = N := by omega
        have dlt : decide ((k : Int) < (k : Int)) = false := decide_eq_false (by omega)
        rw [HN.out] at h6
        have h7 := (h6.front 4 rfl).tail
        have h8 := h7.front 3 rfl
        have h9 := h7.back 3
        have h10 : Sp w0 (blk G (rbox m (.slice a n c) (.slice qa m.q.length qc)) 82 :: row 9 1 (.slice a n c) n (strl m.las) :: row 146 2 (.slice qa m.q.length qc) m.q.length (wcells m.q) :: member F n m :: L) wr := h9
        have H9 := Lib.hid ((rmSlicesClose HO.out.1 HO.out.2 rfl h10).front 1 rfl)
        clear h6 h7 h8 h9 h10
        go_wp2
        go_ret
        exact ⟨rfl, H9.out⟩
end
end Go.Proofs.Ytahdhkhgokggbaa.Member
