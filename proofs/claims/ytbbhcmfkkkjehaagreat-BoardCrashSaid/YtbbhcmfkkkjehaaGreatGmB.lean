/- A member's blank, New walked. -/
import Derived.Test.YtbbhcmfkkkjehaaGreatGmA
import Derived.Test.YtbbhcmfkkkjehaaGreatShelf
import Derived.Laws.MakeOwn
import Derived.Deep.RegionLaw
import Derived.Deep.RegionHeld3
namespace Go.Proofs.YtbbhcmfkkkjehaaGreat.Member
open Go.RowKit Go.Proofs.YtbbhcmfkkkjehaaGreat.Mem Go.Proofs.YtbbhcmfkkkjehaaGreat.Sep
open Go.Proofs.YtbbhcmfkkkjehaaGreatW.PrintWords hiding bt
set_option linter.unusedVariables false
set_option linter.unusedSimpArgs false

theorem rep64 : (⟨(Lib.repeatL (⟨#[0]⟩ : ByteArray).data.toList 64).toArray⟩ : ByteArray) = z64 := by decide +kernel
theorem z64_size : z64.size = 64 := by decide +kernel
theorem madeStrs (w : World) (N : Nat) (hN : N ≤ 100000) : ∃ C0 : Array Value, C0.size = N ∧ (Instr.makeSlice 75 (.int .i64 (N : Nat)) (.int .i64 (N : Nat))).run Tryz.prog w = .ok (.slice (some ⟨w.heap.size, 0, none⟩) N N) (w.alloc (.cells C0 9)) := by
  obtain ⟨info, hinfo, hz, hsz, hby⟩ : ∃ i, Tryz.prog.info? 9 = some i ∧ i.zero = some (.string ⟨#[]⟩) ∧ i.size = 1 ∧ i.bytes = 16 := by
    have h : (Tryz.prog.info? 9).map (fun i => (i.zero, i.size, i.bytes)) = some (some (.string ⟨#[]⟩), 1, 16) := by kernel_rfl
    cases hq : Tryz.prog.info? 9 with
    | none => rw [hq] at h; simp at h
    | some i =>
      rw [hq] at h
      simp at h
      exact ⟨i, rfl, h.1, h.2.1, h.2.2⟩
  have h := run_makeSlice (P := Tryz.prog) w 75 9 info (.string ⟨#[]⟩) (by kernel_rfl) hinfo hz .i64 .i64 N N (by omega) (by omega) (by rw [hsz]; omega) (by rw [hby]; omega) (by omega)
  rw [hsz, Int.toNat_natCast, Nat.mul_one] at h
  exact ⟨_, by rw [size_madeCells], h⟩
attribute [local irreducible] z64
section
variable {w0 w : World} {L : List Asn}
set_option maxHeartbeats 4000000 in
set_option maxRecDepth 100000 in
theorem repeat_calls {b : Nat} {s : ByteArray} (h : Sp w0 (blk b #[.string s] 9 :: L) w) (n : Nat) (h1 : 1 ≤ n) (h2 : n ≤ 100000) :
    Calls Tryz.prog 158 #[.slice (some ⟨b, 0, none⟩) 1 1, .int .i64 (n : Nat)] w fun e w' => ∃ g, e = .returned (.slice (some ⟨g, 0, none⟩) n n) ∧ Sp w0 (blk g (strs (List.replicate n s)) 9 :: blk b #[.string s] 9 :: L) w' := by
  have d0 : decide ((n : Int) < 0) = false := decide_eq_false (by omega)
  have HMUL : Hid (Calls Tryz.prog 166 #[.int .u64 1, .int .u64 (n : Nat)] w fun e w' => e = .returned (.tuple #[.int .u64 0, .int .u64 (n : Nat)]) ∧ w = w') := Lib.hid ((Tryz.bits_Mul 1 n (by omega) (by omega) w).mono fun e w' ⟨he, hw⟩ => by
    rw [Nat.one_mul, Nat.div_eq_of_lt (by omega), Nat.mod_eq_of_lt (by omega)] at he
    exact ⟨he, hw.symm⟩)
  obtain ⟨C0, hC0, hmk⟩ := madeStrs w n h2
  have hb := h.blk (List.mem_cons_self ..)
  have h3 := h.new C0 9
  have hb3 := h3.blk (b := b) (C := #[.string s]) (T := 9) (List.mem_cons_of_mem _ (List.mem_cons_self ..))
  have hg3 := h3.blk (b := w.heap.size) (C := C0) (T := 9) (List.mem_cons_self ..)
  have HH := Lib.hid (And.intro h3 (And.intro hb3 (And.intro hg3 hC0)))
  have n1 : ¬ (9223372036854775807 : Int) < (n : Int) := by omega
  have n2 : decide ((9223372036854775807 : Int) < (n : Int)) = false := decide_eq_false n1
  clear h hb h3 hb3 hg3 hC0
  go_enter Tryz.func158, Tryz.ntmps158
  go_wp2_with fail
  refine HMUL.out.mono ?_
  rintro e w' ⟨rfl, rfl⟩
  generalize w.heap.size = g at HH hmk
  go_wp2_with (refine wpList_copy_mid rfl (.tmp 31) (.tmp 32) 75 75 rfl 9 Tryz.underlying75 (by kernel_rfl) g 0 n n ⟨b, 0, none⟩ 1 1 rfl rfl C0 9 HH.out.2.2.1 [.string s] (by show 1 = min 1 n; omega) (fun j y hy => by cases j with | zero => rw [Addr.add_mid, HH.out.2.1.cell]; simpa using hy | succ j => simp at hy) (by rw [HH.out.2.2.2]; simp; omega) (fun v hv => by simp at hv; subst hv; rfl) ?_)
  intro w2 C1 hw2 hC1
  have h4 := HH.out.1.setRow C1
  rw [← hw2.out] at h4
  have HC1 : Hid (C1.size = n ∧ ∀ j, j < 1 → C1[j]? = some (.string s)) := Lib.hid ⟨by rw [hC1.out.1]; exact HH.out.2.2.2, fun j hj => by
    have e : j = 0 := by omega
    have h0 := hC1.out.2
    subst e; exact h0⟩
  clear hw2 hC1 HH hmk d0 n1 n2
  go_wp2
  go_loopw [8] (fun x8 wr => ∃ (k : Nat) (C : Array Value), 1 ≤ k ∧ k ≤ n ∧ x8 = .int .i64 k ∧ Sp w0 (blk g C 9 :: blk b #[.string s] 9 :: L) wr ∧ Hid (C.size = n ∧ ∀ j, j < k → C[j]? = some (.string s))) (fun i _ => n - (intOf i).toNat)
  case atStart => exact ⟨1, C1, Nat.le_refl _, h1, rfl, h4, HC1⟩
  case round =>
    obtain ⟨k, C, hk1, hk, rfl, h5, HC⟩ := hrel
    clear h4 HC1
    by_cases hlt : k < n
    · have dlt : decide ((k : Int) < (n : Int)) = true := decide_eq_true (by omega)
      have i0 : (0 : Int) ≤ (k : Int) := by omega
      have i1 : (k : Int) ≤ (n : Int) := by omega
      have i2 : ¬ (k : Int) = (n : Int) := by omega
      have i3 : ¬ n = k := by omega
      have h6 := h5.drew
      have hb := h6.blk (b := g) (C := C) (T := 9) (List.mem_cons_self ..)
      obtain ⟨d, hd⟩ : ∃ d, d = min k (n - k) := ⟨_, rfl⟩
      obtain ⟨cs, hcs⟩ : ∃ cs : List Value, cs = List.replicate d (.string s) := ⟨_, rfl⟩
      have HX := Lib.hid (And.intro hb (And.intro (show cs.length = d by rw [hcs]; simp) (And.intro hd (And.intro hcs (show ∀ (j : Nat) v, cs[j]? = some v → wr.drew.cell? ((⟨g, 0, none⟩ : Addr).add j) = some v from fun j v hv => by
        have hj := (List.getElem?_eq_some_iff.1 hv).1
        rw [hcs, List.length_replicate] at hj
        rw [hcs, List.getElem?_replicate, if_pos hj] at hv
        rw [Addr.add_mid, Nat.zero_add, hb.cell, HC.out.2 j (by omega)]; exact hv)))))
      have hdk : d ≤ k ∧ d ≤ n - k ∧ 1 ≤ d := by omega
      have hwd : IntKind.i64.wrap ((k : Int) + (d : Int)) = (k : Int) + (d : Int) := IntWalk.i64_in _ (by omega)
      clear hb hd hcs
      go_upto_region 9 with fail
      go_region_law (refine step_copy_mid rfl (.tmp 41) (.tmp 44) 75 75 rfl 9 Tryz.underlying75 (by kernel_rfl) g k (n - k) (n - k) ⟨g, 0, none⟩ k n (by simp [Act.eval, Act.put]) (by simp [Act.eval, Act.put]) C 9 HX.out.1 cs (by rw [HX.out.2.1, HX.out.2.2.1] <;> rfl) HX.out.2.2.2.2 (by rw [HX.out.2.1, HC.out.1]; omega) (fun v hv => by rw [HX.out.2.2.2.1] at hv; rw [(List.mem_replicate.1 hv).2]; rfl) ?_; intro w5 C5 hw5 hC5; rw [HX.out.2.1])
      have h7 := h6.setRow C5
      rw [← hw5.out] at h7
      have HC2 : Hid (C5.size = n ∧ ∀ j, j < k + d → C5[j]? = some (.string s)) := Lib.hid ⟨by rw [hC5.out.1]; exact HC.out.1, fun j hj => by
        by_cases hjk : j < k
        · rw [hC5.out.2.1 j hjk]; exact HC.out.2 j hjk
        · have e := hC5.out.2.2 (j - k) (by rw [HX.out.2.1]; omega)
          rw [show k + (j - k) = j by omega] at e
          rw [e, HX.out.2.2.2.1, List.getElem?_replicate, if_pos (by omega)]⟩
      clear hw5 hC5 h6 h5 HX hwd HC
      dsimp only [List.getElem_toArray, List.getElem_cons_succ, List.getElem_cons_zero, Act.put]
      simp only [List.setIfInBounds_toArray, List.set_cons_succ, List.set_cons_zero]
      go_roundw
      case measure => simp [intOf]; omega
      case rel =>
        repeat apply Exists.intro
        refine ⟨?_, rfl⟩
        exact ⟨k + d, C5, by omega, by omega, by go_num, h7, HC2⟩
    · obtain rfl : k = n := by omega
      have dlt : decide ((k : Int) < (k : Int)) = false := decide_eq_false (by omega)
      have hC : C = strs (List.replicate k s) := strs_ext (by rw [HC.out.1, List.length_replicate]) (fun i x hx => by
        have hi := (List.getElem?_eq_some_iff.1 hx).1
        rw [List.length_replicate] at hi
        rw [List.getElem?_replicate, if_pos hi] at hx
        rw [← Option.some.inj hx]; exact HC.out.2 i hi)
      subst hC
      clear HC
      go_wp2
      go_ret
      exact ⟨g, rfl, h5⟩
theorem buildOne (w : World) (s : ByteArray) : True := trivial
set_option maxHeartbeats 4000000 in
theorem blank_calls (h : Sp w0 L w) (n : Nat) (h1 : 1 ≤ n) (h2 : n ≤ 100000) :
    Calls Tryz.prog 115 #[.int .i64 (n : Nat)] w fun e w' => ∃ g, e = .returned (.slice (some ⟨g, 0, none⟩) n n) ∧ Sp w0 (blk g (strs (blank n)) 9 :: L) w' := by
  have HR : Hid (Calls Tryz.prog 125 #[.string ⟨#[0]⟩, .int .i64 64] w fun e w' => e = .returned (.string z64) ∧ Below w.heap.size w w') := Lib.hid (by
    refine (Tryz.strings_Repeat ⟨#[0]⟩ 64 w (by omega) (by decide)).mono ?_
    rw [rep64]
    rintro e w' ⟨rfl, b⟩
    exact ⟨rfl, b⟩)
  go_enter Tryz.func115, Tryz.ntmps115
  go_wp2_with fail
  refine HR.out.mono ?_
  rintro e w1 ⟨rfl, b1⟩
  have h3 := (h.step b1).new #[.string z64] 9
  have HRP := Lib.hid (repeat_calls h3 n h1 h2)
  clear h h3 b1 HR
  go_wp2_with fail
  refine HRP.out.mono ?_
  rintro e w2 ⟨g, rfl, h4⟩
  have h5 := (h4.front 1 rfl).tail
  clear h4 HRP
  go_wp2
  go_ret
  exact ⟨g, rfl, h5⟩
/-- How many sectors a member has. -/
def cap (sectors : Int) : Nat := (max 1 (min sectors 256)).toNat
theorem cap_le (s : Int) : 1 ≤ cap s ∧ cap s ≤ 256 := by unfold cap; omega
theorem cap_eq (s : Int) : max 1 (min s 256) = (cap s : Nat) := by unfold cap; omega
theorem fresh_ok (n : Nat) : (Mb.fresh n).ok n := ⟨by simp [Mb.fresh, blank], by simp [Mb.fresh, blank], fun x hx => by simp [Mb.fresh] at hx⟩
set_option maxHeartbeats 4000000 in
theorem new_calls (h : Sp w0 L w) (s : Int) :
    Calls Tryz.prog 67 #[.int .i64 s] w fun e w' => ∃ F, e = .returned (.pointer (some ⟨F, 0, none⟩)) ∧ Sp w0 (member F (cap s) (Mb.fresh (cap s)) :: L) w' := by
  have hcap := cap_le s
  obtain ⟨n, hn⟩ : ∃ n, n = cap s := ⟨_, rfl⟩
  have he := cap_eq s
  rw [← hn] at hcap he ⊢
  have HE := Lib.hid he
  have HB1 := Lib.hid (blank_calls h n (by omega) (by omega))
  clear hn he
  go_enter Tryz.func67, Tryz.ntmps67
  go_upto_region 1 with fail
  go_cut [3] (fun x3 wx => x3 = .int .i64 (n : Nat) ∧ w = wx)
  case first =>
    go_wp2
    go_meet
    case rel => exact ⟨by rw [← HE.out], rfl⟩
  case rest =>
    obtain ⟨rfl, rfl⟩ := hcut
    go_wp2_with fail
    refine HB1.out.mono ?_
    rintro e w1 ⟨gl, rfl, h2⟩
    have HB2 := Lib.hid (blank_calls h2 n (by omega) (by omega))
    clear h h2 HB1
    go_wp2_with fail
    refine HB2.out.mono ?_
    rintro e w2 ⟨gn, rfl, h3⟩
    have h4 := ((h3.nil 203 2).new (box n (Mb.fresh n) gl gn (.slice none 0 0)) 140)
    have h5 := ((h4.front 2 rfl).front 3 rfl).front 2 rfl
    have HFIN := Lib.hid (mbClose (m := Mb.fresh n) (v := .slice none 0 0) (gl := gl) (gn := gn) (fresh_ok n) h5)
    clear h3 h4 h5 HB2
    go_wp2
    go_ret
    exact ⟨_, rfl, HFIN.out⟩
/-- Replace. -/
theorem replace_nil (w : World) : Calls Tryz.prog 63 #[.pointer none] w fun e w' => e = .returned (.tuple #[]) ∧ w = w' := by
  go_enter Tryz.func63, Tryz.ntmps63
  go_wp2
  first | go_end0 | refine bodyPost_ret (results_none rfl _ _ _) rfl ?_
  exact ⟨rfl, rfl⟩
theorem Mb.replace_ok {m : Mb} {n : Nat} (h : m.ok n) : m.replace.ok n := ⟨by simp [Mb.replace, blank, h.now], by simp [Mb.replace, blank, h.now], fun x hx => by simp [Mb.replace] at hx⟩
set_option maxHeartbeats 4000000 in
set_option maxRecDepth 100000 in
theorem replace_calls {F n : Nat} {m : Mb} (h : Sp w0 (member F n m :: L) w) (hn1 : 1 ≤ n) (hn : n ≤ 256) :
    Calls Tryz.prog 63 #[.pointer (some ⟨F, 0, none⟩)] w fun e w' => e = .returned (.tuple #[]) ∧ Sp w0 (member F n m.replace :: L) w' := by
  obtain ⟨ho, gl, gn, v, h1⟩ := mbOpen h
  have hbF := h1.blk (List.mem_cons_self ..)
  obtain ⟨_, _, _, _, _, c5, _, _⟩ := box_cells hbF
  have HB1 := Lib.hid (blank_calls h1 n hn1 (by omega))
  have HO := Lib.hid ho
  clear h h1 hbF ho
  go_enter Tryz.func63, Tryz.ntmps63
  go_wp2_with fail
  refine HB1.out.mono ?_
  rintro e w1 ⟨g1, rfl, h2⟩
  have HB2 := Lib.hid (blank_calls h2 n hn1 (by omega))
  clear h2 HB1 c5
  go_wp2_with fail
  refine HB2.out.mono ?_
  rintro e w2 ⟨g2, rfl, h3⟩
  have h4 := h3.front 2 rfl
  have hbF := h4.blk (b := F) (C := box n m gl gn v) (T := 140) (List.mem_cons_self ..)
  have c4 : w2.cell? ⟨F, 4, none⟩ = some (.slice (some ⟨gl, 0, none⟩) n n) := hbF.cell 4
  have c5 : w2.cell? ⟨F, 5, none⟩ = some (.slice (some ⟨gn, 0, none⟩) n n) := hbF.cell 5
  have c6 : w2.cell? ⟨F, 6, none⟩ = some v := hbF.cell 6
  have c7 : w2.cell? ⟨F, 7, none⟩ = some (.bool m.dead) := hbF.cell 7
  have f4 := hbF.frozen 4
  have f5 := hbF.frozen 5
  have f6 := hbF.frozen 6
  have f7 := hbF.frozen 7
  have h5 := (((h4.set 4 (.slice (some ⟨g1, 0, none⟩) n n)).set 5 (.slice (some ⟨g2, 0, none⟩) n n)).set 6 (.slice none 0 0)).set 7 (.bool false)
  have hb5 := h5.blk (b := F) (List.mem_cons_self ..)
  have HADD := Lib.hid (add_calls F 3 m.p _ (hb5.cell 3) (hb5.frozen 3))
  have h6 := h5.set 3 (.int .i64 (wrap64 (m.p + 1)))
  have h7 := ((((((h6.front 3 rfl).tail).front 3 rfl).tail).front 3 rfl).tail).nil 203 2
  have h8 := ((h7.front 2 rfl).front 3 rfl).front 3 rfl
  have hok2 := Mb.replace_ok HO.out
  unfold Mb.replace at hok2
  rw [HO.out.now] at hok2
  have HFIN := Lib.hid (mbClose (m := { m with las := blank n, now := blank n, q := [], dead := false, p := wrap64 (m.p + 1) }) (v := .slice none 0 0) (gl := g1) (gn := g2) hok2 h8)
  clear h3 h4 h5 h6 h7 h8 hbF hb5 hok2 HB2
  go_wp2_with fail
  refine HADD.out.mono ?_
  rintro e w3 ⟨rfl, rfl⟩
  go_wp2
  first | go_end0 | refine bodyPost_ret (results_none rfl _ _ _) rfl ?_
  exact ⟨rfl, by unfold Mb.replace; rw [HO.out.now]; exact HFIN.out⟩
end
end Go.Proofs.YtbbhcmfkkkjehaaGreat.Member
/- A member's Counts, and Rot where nothing is done, walked. -/
namespace Go.Proofs.YtbbhcmfkkkjehaaGreat.Member
open Go.RowKit Go.Proofs.YtbbhcmfkkkjehaaGreat.Mem Go.Proofs.YtbbhcmfkkkjehaaGreat.Sep
open Go.Proofs.YtbbhcmfkkkjehaaGreatW.PrintWords hiding bt
set_option linter.unusedVariables false
set_option linter.unusedSimpArgs false

section
variable {w0 w : World} {F : Nat} {m : Mb} {L : List Asn} {n : Nat}
theorem load_calls (b o : Nat) (x : Int) (w : World) (hc : w.cell? ⟨b, o, none⟩ = some (.int .i64 x)) :
    Calls Tryz.prog 86 #[.pointer (some ⟨b, o, none⟩)] w fun e w' => e = .returned (.int .i64 x) ∧ w = w' := by
  have hr : (callFunc 134 #[.pointer (some ⟨b, o, none⟩)]).run Tryz.prog w = .ok (.value (.int .i64 x)) w :=
    run_call_load Tryz.func134 (by kernel_rfl) (by kernel_rfl) (by kernel_rfl) .i64 (by kernel_rfl) hc
  go_enter Tryz.func86, Tryz.ntmps86
  go_wp2
  go_ret
  exact ⟨rfl, rfl⟩
set_option maxHeartbeats 4000000 in
theorem rot_nil (i : Int) (s : ByteArray) (w : World) :
    Calls Tryz.prog 54 #[.pointer none, .int .i64 i, .string s] w fun e w' => e = .returned (.bool false) ∧ Below w.heap.size w w' := by
  go_enter Tryz.func54, Tryz.ntmps54
  go_wp2_with fail
  refine (may_nil i _).mono ?_
  rintro e w' ⟨rfl, rfl⟩
  go_wp2
  go_ret
  exact ⟨rfl, ba (br _) _⟩
set_option maxHeartbeats 4000000 in
theorem rot_no (h : Sp w0 (member F n m :: L) w) (i : Int) (s : ByteArray) (hr : m.rotB i s = false) :
    Calls Tryz.prog 54 #[.pointer (some ⟨F, 0, none⟩), .int .i64 i, .string s] w fun e w' => e = .returned (.bool false) ∧ Sp w0 (member F n m :: L) w' := by
  have h1 := h.any (.cells #[.int .i64 i] 3)
  have HM := Lib.hid (may_calls h1 i)
  have HF := Lib.hid h1
  unfold Mb.rotB at hr
  obtain ⟨k, hk⟩ : ∃ k, k = m.may i := ⟨_, rfl⟩
  rw [← hk] at HM hr
  clear hk h h1
  by_cases h0 : k = 0
  · have hs : s.size ≠ 64 := by rw [decide_eq_true h0, Bool.true_and] at hr; exact of_decide_eq_false hr
    subst h0
    have q1 : ((s.size : Int) == 64) = false := beq_eq_false_iff_ne.2 (by omega)
    have q2 : ((s.size : Int) != 64) = true := by rw [bne, q1]; rfl
    clear hr hs
    go_enter Tryz.func54, Tryz.ntmps54
    go_wp2_with fail
    refine HM.out.mono ?_
    rintro e w' ⟨rfl, rfl⟩
    go_wp2
    go_ret
    exact ⟨rfl, HF.out⟩
  · have q1 : (k == 0) = false := beq_eq_false_iff_ne.2 h0
    have q2 : (k != 0) = true := by rw [bne, q1]; rfl
    clear hr h0
    go_enter Tryz.func54, Tryz.ntmps54
    go_wp2_with fail
    refine HM.out.mono ?_
    rintro e w' ⟨rfl, rfl⟩
    go_wp2
    go_ret
    exact ⟨rfl, HF.out⟩
end
end Go.Proofs.YtbbhcmfkkkjehaaGreat.Member
