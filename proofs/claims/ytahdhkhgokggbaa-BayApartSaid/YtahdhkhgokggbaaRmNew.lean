/- The document's member's blank, New, Replace, Put walked. -/
import Derived.Test.YtahdhkhgokggbaaRmOps
import Derived.Test.YtahdhkhgokggbaaSectorM
namespace Go.Proofs.Ytahdhkhgokggbaa.Member
open Go.RowKit Go.Proofs.Ytahdhkhgokggbaa.Mem Go.Proofs.Ytahdhkhgokggbaa.Sep
open Go.Proofs.YtahdhkhgokggbaaW.PrintWords hiding bt
set_option linter.unusedVariables false
set_option linter.unusedSimpArgs false

theorem string_info : (Try.prog.info? 9).map (fun i => (i.zero, i.size, i.bytes)) = some (some (.string ⟨#[]⟩), 1, 16) := by kernel_rfl
theorem z64_made2 (w : World) : ∃ R, (Instr.makeSlice 24 (.int .i64 64) (.int .i64 64)).run Try.prog w = .ok (.slice (some ⟨w.heap.size, 0, none⟩) 64 64) (w.alloc (.cells R 5)) ∧
    (convert 24 9 (.slice (some ⟨w.heap.size, 0, none⟩) 64 64)).run Try.prog (w.alloc (.cells R 5)) = .ok (.string z64) (w.alloc (.cells R 5)) := by
  refine ⟨cells8 (List.replicate 64 0), made8 w 64 (by omega), ?_⟩
  have := conv8 (w.alloc (.cells (cells8 (List.replicate 64 0)) 5)) w.heap.size (List.replicate 64 0) 64 64 rfl (Blk.new _ _ _)
  exact this
theorem blank_succ (k : Nat) : blank (k + 1) = blank k ++ [z64] := List.replicate_succ'
theorem strl_app (a b : List ByteArray) : strl (a ++ b) = strl a ++ strl b := by unfold strl; exact List.map_append
theorem blank_length (k : Nat) : (blank k).length = k := by unfold blank; exact List.length_replicate
attribute [local irreducible] z64
section
variable {w0 w : World} {G : Nat} {m : Mb} {L : List Asn} {n : Nat}
set_option maxHeartbeats 4000000 in
set_option maxRecDepth 100000 in
theorem rblank_calls (h : Sp w0 L w) (n : Nat) (hn : n ≤ 100000) :
    Calls Try.prog 79 #[.int .i64 (n : Nat)] w fun e w' => ∃ v, e = .returned v ∧ Sp w0 (row 9 1 v (blank n).length (strl (blank n)) :: L) w' := by
  have HN := Lib.hid (h.nil 9 1)
  obtain ⟨i0, hi0, hz0, hz1, hz2⟩ := info_parts string_info
  clear h
  go_enter Try.func79, Try.ntmps79
  go_wp2
  go_loopw [3, 4] (fun x3 x4 wr => ∃ (k : Nat) (v : Value), k ≤ n ∧ x4 = .int .i64 k ∧ v = x3 ∧ Sp w0 (row 9 1 v k (strl (blank k)) :: L) wr) (fun _ i _ => n - (intOf i).toNat)
  case atStart => exact ⟨0, .slice none 0 0, Nat.zero_le _, rfl, rfl, HN.out⟩
  case round =>
    obtain ⟨k, v, hk, rfl, rfl, h2⟩ := hrel
    by_cases hlt : k < n
    · have dlt : decide ((k : Int) < (n : Int)) = true := decide_eq_true (by omega)
      obtain ⟨R, hmk, hcv⟩ := z64_made2 wr
      have h3 := (h2.any (.cells R 5)).any (.cells #[.string z64] 9)
      have hown := h3.row (v := v) (n := k) (T := 9) (List.mem_cons_self ..)
      have H3 := Lib.hid h3
      clear h2 h3 HN
      go_wp2_with (at_builtin; refine wpList_append_own_at _ rfl (.tmp 10) (.tmp 13) 32 rfl 0 9 i0 (.string ⟨#[]⟩) 1 16 Try.underlying32 hi0 hz0 hz1 hz2 rfl (by decide) v k (strl (blank k)) rfl hown ⟨wr.heap.size + 1, 0, none⟩ 1 1 [.string z64] rfl rfl ?x1 ?x2 ?x3 ?x4 ?x5 ?_)
      case x1 =>
        intro j y hy
        have hb := Blk.new (wr.alloc (.cells R 5)) #[.string z64] 9
        have e : (wr.alloc (.cells R 5)).heap.size = wr.heap.size + 1 := by simp
        rw [e] at hb
        rw [Addr.add_mid, Nat.zero_add, hb.cell]
        simpa using hy
      case x2 => intro y hy; simp at hy; subst hy; rfl
      case x3 => unfold maxLen; omega
      case x4 => omega
      case x5 => omega
      intro v' w2 hown2 hgrow hnil hat
      have h4 := H3.out.grow hown2 hgrow (hat.imp id (fun e => e.trans (by simp)))
      have e : strl (blank k) ++ [.string z64] = strl (blank (k + 1)) := by rw [blank_succ, strl_app]; rfl
      rw [e] at h4
      clear hown2 hgrow hnil hat hown H3 e
      go_wp2
      go_roundw
      case measure => simp [intOf]; omega
      case rel => exact ⟨k + 1, v', by omega, by go_num, rfl, h4⟩
    · obtain rfl : k = n := by omega
      have dlt : decide ((k : Int) < (k : Int)) = false := decide_eq_false (by omega)
      have H2 := Lib.hid h2
      clear h2 HN
      go_wp2
      go_ret
      exact ⟨v, rfl, by rw [blank_length]; exact H2.out⟩
theorem rnew_at (h : Sp w0 L w) (s : Int) (n : Nat) (hn1 : 1 ≤ n) (hn2 : n ≤ 256) (hs : (s < 1 ∧ n = 1) ∨ (256 < s ∧ n = 256) ∨ (s = n)) :
    Calls Try.prog 39 #[.int .i64 s] w fun e w' => ∃ G, e = .returned (.pointer (some ⟨G, 0, none⟩)) ∧ Sp w0 (rmem G n (Mb.fresh n) :: L) w' := by
  have HB := Lib.hid (rblank_calls h n (by omega))
  have hfin : ∀ w1 a c, Sp w0 (row 9 1 (.slice a (blank n).length c) (blank n).length (strl (blank n)) :: L) w1 → Sp w0 (rmem w1.heap.size n (Mb.fresh n) :: L) (w1.alloc (.cells #[.slice a (blank n).length c, .slice none 0 0, .bool false, .int .i64 0, .int .i64 0, .int .i64 0, .int .i64 0] 82)) := fun w1 a c h1 => by
    have h2 := ((h1.nil 146 2).front 1 rfl).new #[.slice a (blank n).length c, .slice none 0 0, .bool false, .int .i64 0, .int .i64 0, .int .i64 0, .int .i64 0] 82
    exact rmClose (m := Mb.fresh n) (vs := .slice a (blank n).length c) (vq := .slice none 0 0) (fresh_ok n) (tied_fresh n) h2
  have HFIN := Lib.hid hfin
  clear h hfin
  rcases hs with ⟨hs, rfl⟩ | ⟨hs, rfl⟩ | rfl
  · have d1 : decide (s < 1) = true := decide_eq_true hs
    go_enter Try.func39, Try.ntmps39
    go_wp2_with fail
    refine HB.out.mono ?_
    rintro e w1 ⟨v, rfl, h1⟩
    obtain ⟨a, c, rfl, _⟩ := row_strs (h1.row (List.mem_cons_self ..))
    have H1 := Lib.hid (HFIN.out w1 a c h1)
    clear h1
    go_wp2
    go_ret
    exact ⟨_, rfl, H1.out⟩
  · have d1 : decide (s < 1) = false := decide_eq_false (by omega)
    have d2 : decide (256 < s) = true := decide_eq_true hs
    go_enter Try.func39, Try.ntmps39
    go_wp2_with fail
    refine HB.out.mono ?_
    rintro e w1 ⟨v, rfl, h1⟩
    obtain ⟨a, c, rfl, _⟩ := row_strs (h1.row (List.mem_cons_self ..))
    have H1 := Lib.hid (HFIN.out w1 a c h1)
    clear h1
    go_wp2
    go_ret
    exact ⟨_, rfl, H1.out⟩
  · have d1 : decide ((n : Int) < 1) = false := decide_eq_false (by omega)
    have d2 : decide (256 < (n : Int)) = false := decide_eq_false (by omega)
    go_enter Try.func39, Try.ntmps39
    go_wp2_with fail
    refine HB.out.mono ?_
    rintro e w1 ⟨v, rfl, h1⟩
    obtain ⟨a, c, rfl, _⟩ := row_strs (h1.row (List.mem_cons_self ..))
    have H1 := Lib.hid (HFIN.out w1 a c h1)
    clear h1
    go_wp2
    go_ret
    exact ⟨_, rfl, H1.out⟩
theorem rnew_calls (h : Sp w0 L w) (s : Int) :
    Calls Try.prog 39 #[.int .i64 s] w fun e w' => ∃ G, e = .returned (.pointer (some ⟨G, 0, none⟩)) ∧ Sp w0 (rmem G (cap s) (Mb.fresh (cap s)) :: L) w' := by
  have := cap_le s
  exact rnew_at h s (cap s) this.1 this.2 (by unfold cap at *; omega)
set_option maxHeartbeats 4000000 in
set_option maxRecDepth 100000 in
theorem rreplace_calls (h : Sp w0 (rmem G n m :: L) w) (hn1 : 1 ≤ n) (hn : n ≤ 256) :
    Calls Try.prog 85 #[.pointer (some ⟨G, 0, none⟩)] w fun e w' => e = .returned (.tuple #[]) ∧ Sp w0 (rmem G n m.replace :: L) w' := by
  obtain ⟨ho, ht, vs, vq, h1⟩ := rmOpen h
  obtain ⟨a, c, qa, qc, hr⟩ := rds h
  have c0 := hr.c0
  obtain ⟨vs', hvs⟩ : ∃ v, v = vs := ⟨_, rfl⟩
  have HB1 := Lib.hid (rblank_calls h1 n (by omega))
  have HO := Lib.hid ho
  clear h h1 hr ho ht
  go_enter Try.func85, Try.ntmps85
  go_wp2_with fail
  refine HB1.out.mono ?_
  rintro e w1 ⟨v, rfl, h2⟩
  obtain ⟨ra, rc, rfl, _⟩ := row_strs (h2.row (List.mem_cons_self ..))
  have h3 := h2.front 1 rfl
  have hbF := h3.blk (b := G) (C := rbox m vs vq) (T := 82) (List.mem_cons_self ..)
  obtain ⟨e0, e1, e2, e3, e4, e5, e6⟩ := rbox_cells hbF
  have f0 := hbF.frozen 0
  have f1 := hbF.frozen 1
  have f2 := hbF.frozen 2
  have f6 := hbF.frozen 6
  have h5 := (((h3.set 0 (.slice ra (blank n).length rc)).set 1 (.slice none 0 0)).set 2 (.bool false))
  have hb5 := h5.blk (b := G) (List.mem_cons_self ..)
  have g6 : _ = some (Value.int .i64 m.p) := hb5.cell 6
  have z6 := hb5.frozen 6
  have h6 := (h5.set 6 (.int .i64 (wrap64 (m.p + 1)))).drew
  have h7 := (((h6.front 2 rfl).tail).front 2 rfl).tail.nil 146 2
  have h8 := (h7.front 2 rfl).front 2 rfl
  have hok2 := Mb.replace_ok HO.out
  have htd := tied_replace m
  unfold Mb.replace at hok2 htd
  rw [HO.out.now] at hok2 htd
  have HFIN := Lib.hid (rmClose (m := { m with las := blank n, now := blank n, q := [], dead := false, p := wrap64 (m.p + 1) }) (vs := .slice ra (blank n).length rc) (vq := .slice none 0 0) hok2 htd h8)
  clear h3 h5 h6 h7 h8 hbF hb5 hok2 htd HB1 h2 c0 e3 e4 e5
  go_wp2
  go_region
  all_goals go_wp2
  all_goals first | go_end0 | refine bodyPost_ret (results_none rfl _ _ _) rfl ?_
  all_goals exact ⟨rfl, by unfold Mb.replace; rw [HO.out.now]; exact HFIN.out⟩
end
end Go.Proofs.Ytahdhkhgokggbaa.Member
