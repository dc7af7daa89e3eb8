/- A bay's New walked, the document's too. -/
import Derived.Test.YtahdhkhgokggbaaBayLive
namespace Go.Proofs.Ytahdhkhgokggbaa.Bay
open Go.RowKit Go.Proofs.Ytahdhkhgokggbaa.Mem Go.Proofs.Ytahdhkhgokggbaa.Sep Go.Proofs.Ytahdhkhgokggbaa.Member
open Go.Proofs.YtahdhkhgokggbaaW.PrintWords hiding bt
set_option linter.unusedVariables false
set_option linter.unusedSimpArgs false

theorem ptr_info : (Try.prog.info? 42).map (fun i => (i.zero, i.size, i.bytes)) = some (some (.pointer none), 1, 8) := by kernel_rfl
theorem rptr_info : (Try.prog.info? 75).map (fun i => (i.zero, i.size, i.bytes)) = some (some (.pointer none), 1, 8) := by kernel_rfl
theorem ptrs_app (a b : List Nat) : ptrs (a ++ b) = ptrs a ++ ptrs b := by unfold ptrs; exact List.map_append
theorem zip_snoc {α β γ : Type} {f : α → β → γ} {l : List α} {M : List β} (h : l.length = M.length) (a : α) (b : β) : List.zipWith f (l ++ [a]) (M ++ [b]) = List.zipWith f l M ++ [f a b] := by
  rw [List.zipWith_append h]; rfl
section
variable {w0 w : World} {L : List Asn}
/-- One more at the end. -/
theorem mems_push {A C : Asn} {n F : Nat} {m : Mb} {ps : List Nat} {M : List Mb} (h : Sp w0 (memz F n m :: A :: C :: (mems n ps M ++ L)) w) (hl : ps.length = M.length) : Sp w0 (A :: C :: (mems n (ps ++ [F]) (M ++ [m]) ++ L)) w := by
  have e : A :: C :: (mems n (ps ++ [F]) (M ++ [m]) ++ L) = (A :: C :: mems n ps M) ++ (memz F n m :: L) := by
    unfold mems
    rw [zip_snoc hl]; simp
  rw [e]
  have h2 := h.perm (M := (A :: C :: mems n ps M) ++ (memz F n m :: L)) (by
    have := (List.perm_middle (a := memz F n m) (l₁ := A :: C :: mems n ps M) (l₂ := L)).symm
    exact this)
  exact h2
theorem rmems_push {A C : Asn} {n F : Nat} {m : Mb} {ps : List Nat} {M : List Mb} (h : Sp w0 (rmemz F n m :: A :: C :: (rmems n ps M ++ L)) w) (hl : ps.length = M.length) : Sp w0 (A :: C :: (rmems n (ps ++ [F]) (M ++ [m]) ++ L)) w := by
  have e : A :: C :: (rmems n (ps ++ [F]) (M ++ [m]) ++ L) = (A :: C :: rmems n ps M) ++ (rmemz F n m :: L) := by
    unfold rmems
    rw [zip_snoc hl]; simp
  rw [e]
  have h2 := h.perm (M := (A :: C :: rmems n ps M) ++ (rmemz F n m :: L)) (by
    have := (List.perm_middle (a := rmemz F n m) (l₁ := A :: C :: rmems n ps M) (l₂ := L)).symm
    exact this)
  exact h2
def b0 : By := ⟨false, 0, 0, []⟩
set_option maxHeartbeats 8000000 in
set_option maxRecDepth 100000 in
theorem bnew_calls (h : Sp w0 L w) (k s : Int) :
    Calls Try.prog 49 #[.int .i64 k, .int .i64 s] w fun e w' => ∃ B ps, e = .returned (.pointer (some ⟨B, 0, none⟩)) ∧ Sp w0 (bay B ps (cap s) (By.fresh (caps k) (cap s)) :: L) w' := by
  have hcaps := caps_le k
  have hce := caps_eq k
  obtain ⟨N, hN⟩ : ∃ N, N = caps k := ⟨_, rfl⟩
  rw [← hN] at hcaps hce ⊢
  have HE := Lib.hid hce
  obtain ⟨i0, hi0, hz0, hz1, hz2⟩ := info_parts ptr_info
  have HNEW := Lib.hid (fun (L : List Asn) w1 (h : Sp w0 L w1) => znew h s)
  obtain ⟨n, hn⟩ : ∃ n, n = cap s := ⟨_, rfl⟩
  rw [← hn] at HNEW ⊢
  clear hce hN hn
  have h1 := (h.nil 42 1).new #[.int .u32 0, .int .i64 0, .int .i64 0, .slice none 0 0] 162
  have H1 := Lib.hid h1
  clear h h1
  go_enter Try.func49, Try.ntmps49
  go_upto_region 2 with fail
  have hB : ∃ B, B = w.heap.size := ⟨_, rfl⟩
  obtain ⟨B, hB⟩ := hB
  have h1 := H1.out
  rw [← hB] at h1 ⊢
  generalize w.alloc (.cells #[.int .u32 0, .int .i64 0, .int .i64 0, .slice none 0 0] 162) = w1 at h1 ⊢
  have H1 := Lib.hid h1
  clear hB h1
  go_cut [10, 11] (fun x10 x11 wx => x10 = .int .i64 (N : Nat) ∧ x11 = .int .i64 0 ∧ w1 = wx)
  case first =>
    go_wp2
    go_meet
    case rel => exact ⟨by rw [← HE.out], rfl, rfl⟩
  case rest =>
    obtain ⟨rfl, rfl, rfl⟩ := hcut
    go_wp2
    go_loopw [11] (fun x11 wr => ∃ (j : Nat) (ps : List Nat) (v : Value), j ≤ N ∧ x11 = .int .i64 j ∧ ps.length = j ∧ Sp w0 (blk B (bbox b0 v) 162 :: row 42 1 v j (ptrs ps) :: (mems n ps (List.replicate j (Mb.fresh n)) ++ L)) wr) (fun i _ => N - (intOf i).toNat)
    case atStart => exact ⟨0, [], .slice none 0 0, Nat.zero_le _, rfl, rfl, H1.out⟩
    case round =>
      clear H1
      obtain ⟨j, ps, v, hj, rfl, hps, h2⟩ := hrel
      obtain ⟨va, vc, rfl⟩ := Member.own_slice (h2.row (v := v) (n := j) (xs := ptrs ps) (T := 42) (size := 1) (List.mem_cons_of_mem _ (List.mem_cons_self ..)))
      have HP := Lib.hid hps
      clear hps
      by_cases hlt : j < N
      · have dlt : decide ((j : Int) < (N : Int)) = true := decide_eq_true (by omega)
        have hj32 : j ≤ 32 := by omega
        have HS := h2.drew
        have hb := HS.blk (b := B) (C := bbox b0 (.slice va j vc)) (T := 162) (List.mem_cons_self ..)
        go_upto_region 4 with fail
        have c3 : _ = some (Value.slice va j vc) := hb.cell 3
        go_region_law (first
              | (go_simp; go_at_call 22; refine (HNEW.out _ _ HS).mono ?_; rintro e w2 ⟨F, rfl, HS⟩; have hb := HS.blk (b := B) (C := bbox b0 (.slice va j vc)) (T := 162) (List.mem_cons_of_mem _ (List.mem_cons_self ..)); have c3 : _ = some (Value.slice va j vc) := hb.cell 3; have c4 : _ = some (Value.slice va j vc) := (hb.alloc (.cells #[.pointer (some ⟨F, 0, none⟩)] 42)).cell 3)
              | (refine step_append_lies _ (by rfl) (.tmp 17) (.tmp 20) 47 (by rfl) 0 42 i0 (.pointer none) 1 8 Try.underlying47 hi0 hz0 hz1 hz2 rfl (by decide) (.slice va j vc) j (ptrs ps) (by rfl) ((HS.any _).row (List.mem_cons_of_mem _ (List.mem_cons_of_mem _ (List.mem_cons_self ..)))) ⟨w2.heap.size, 0, none⟩ 1 1 [.pointer (some ⟨F, 0, none⟩)] (by rfl) rfl (fun t u ht => by rw [Addr.add_mid, Nat.zero_add, (Blk.new w2 #[.pointer (some ⟨F, 0, none⟩)] 42).cell]; simpa using ht) (fun u hu => by simp at hu; subst hu; rfl) (by decide) (by unfold maxLen; omega) (by omega) (Nat.zero_le _) _ rfl ?_
                 intro g cap1 w5 hown hgrow hat hlt5
                 have HG := Sp.grow ((HS.any (.cells #[.pointer (some ⟨F, 0, none⟩)] 42)).front 2 rfl) hown hgrow (hat.imp (fun e => e.symm) (fun e => congrArg some e))
                 have hb5 := HG.blk (b := B) (C := bbox b0 (.slice va j vc)) (T := 162) (List.mem_cons_of_mem _ (List.mem_cons_of_mem _ (List.mem_cons_self ..)))
                 have c5 : _ = some (Value.slice va j vc) := hb5.cell 3
                 have f5 := hb5.frozen 3))
        all_goals (
          have h6 := HG.setAt 2 rfl 3 (.slice (some ⟨g, 0, none⟩) (j + 1) cap1)
          have h7 := (h6.front 2 rfl).front 2 rfl
          have h7 : Sp w0 (memz F n (Mb.fresh n) :: blk B (bbox b0 (.slice (some ⟨g, 0, none⟩) (j + 1) cap1)) 162 :: row 42 1 (.slice (some ⟨g, 0, none⟩) (j + 1) cap1) (j + 1) (ptrs ps ++ [.pointer (some ⟨F, 0, none⟩)]) :: (mems n ps (List.replicate j (Mb.fresh n)) ++ L)) _ := h7
          have h8 := mems_push h7 (by rw [HP.out, List.length_replicate])
          rw [← List.replicate_succ', show ptrs ps ++ [.pointer (some ⟨F, 0, none⟩)] = ptrs (ps ++ [F]) by rw [ptrs_app]; rfl] at h8
          have H8 := Lib.hid h8
          clear h6 h7 h8 HG hb5 c5 f5 hown hgrow hat HS hb c3
          go_wp2
          go_roundw)
        all_goals first
          | exact ⟨j + 1, ps ++ [F], _, by omega, by go_num, by rw [List.length_append, HP.out]; rfl, H8.out⟩
          | (simp [intOf]; omega)
      · obtain rfl : j = N := by omega
        have dlt : decide ((j : Int) < (j : Int)) = false := decide_eq_false (by omega)
        have HP2 := HP.out
        subst HP2
        have h3 : Sp w0 (bay B ps n (By.fresh ps.length n) :: L) wr := bayClose (b := By.fresh ps.length n) (v := .slice va ps.length vc) (by simp [By.fresh]) h2
        have H3 := Lib.hid h3
        clear h2 h3
        go_wp2
        go_ret
        first | exact ⟨B, rfl, ps, H3.out⟩ | exact ⟨B, ps, rfl, H3.out⟩
end
end Go.Proofs.Ytahdhkhgokggbaa.Bay
