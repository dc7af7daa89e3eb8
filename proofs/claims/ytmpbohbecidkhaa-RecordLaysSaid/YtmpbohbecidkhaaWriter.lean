/- A record's writer: a struct that begins with a strings.Builder. What its methods do, under the separation layer. -/
import Derived.Test.YtmpbohbecidkhaaApp
import Derived.Test.YtmpbohbecidkhaaBld
import Derived.Lib.FrozenHead2
namespace Go.Proofs.Ytmpbohbecidkhaa.Wr
open Go.RowKit Go.Proofs.Ytmpbohbecidkhaa.Mem Go.Proofs.Ytmpbohbecidkhaa.Sep Go.Proofs.Ytmpbohbecidkhaa.B8 Go.Proofs.Ytmpbohbecidkhaa.CrcS
open Go.Proofs.YtmpbohbecidkhaaW.PrintWords hiding bt
set_option linter.unusedVariables false
set_option linter.unusedSimpArgs false

/-! Appends to a row whose head may be frozen: where the row lies behind it. -/
section
variable {P : Program} (w : World)
theorem app_at (t ty e : TypeId) (i : TypeInfo) (z : Value) (bytes : Nat) (ht : P.underlying t = some (.slice e)) (hi : P.info? e = some i) (hz : i.zero = some z) (hsize : i.size = 1) (hby : i.bytes = bytes) (hzs : z.cells.size = 1)
    (v : Value) (n : Nat) (xs : List Value) (hown : w.ownsRowF 0 e 1 v n xs)
    (a : Addr) (m c : Nat) (news : List Value) (hl : news.length = m * 1) (hnews : ∀ j u, news[j]? = some u → w.cell? (a.add j) = some u) (h1 : ∀ u ∈ news, u.oneCell' = true)
    (h63 : n + m ≤ maxLen) (hbytes : (n + m) * bytes ≤ 140737488355328) :
    ∃ v' w', (Builtin.append_ #[t, t] ty #[v, .slice (some a) m c]).run P w = .ok v' w' ∧ w'.ownsRowF 0 e 1 v' (n + m) (xs ++ news) ∧ w.grownBy w' v.ownBlock ∧ (v'.ownBlock = v.ownBlock ∨ v'.ownBlock = some w.heap.size) := by
  obtain ⟨v', w', r1, r2, r3, _⟩ := run_append_ownF (P := P) w 0 t ty e i z 1 bytes ht hi hz hsize hby hzs (by decide) v n xs hown a m c news hl hnews h1 h63 hbytes (Nat.zero_le _)
  refine ⟨v', w', r1, r2, r3, ?_⟩
  rcases hown.2 with ⟨rfl, rfl⟩ | ⟨g, cap, cur, fz, rfl, hbg, hg, hfz, hnc, hcm, hcs, htake⟩
  · obtain ⟨v2, w2, q1, _, _, _, q5⟩ := run_append_own_at (P := P) w 0 t ty e i z 1 bytes ht hi hz hsize hby hzs (by decide) (.slice none 0 0) 0 xs ⟨hown.1, .inl ⟨rfl, rfl⟩⟩ a m c news hl hnews h1 h63 hbytes (Nat.zero_le _)
    rw [r1] at q1
    cases q1
    exact q5
  · by_cases hroom : n + m ≤ cap
    · have hr := run_append_roomF (P := P) w t ty e i ht hi g n cap cur fz hg (by rw [hsize]; exact hfz) a m c news (by rw [hsize]; exact hl) hnews h1 hroom (by rw [hsize, hl, hcs]; omega)
      rw [r1] at hr
      cases hr
      left; rfl
    · have holds : ∀ j u, xs[j]? = some u → w.cell? ((⟨g, 0, none⟩ : Addr).add j) = some u := hown.cells (g := g) rfl
      have hr := run_append_grow (P := P) w t ty e i z ht hi hz ⟨g, 0, none⟩ n cap xs (by rw [hsize]; exact hown.1) holds a m c news (by rw [hsize]; exact hl) hnews (by omega) (by unfold maxLen at h63; omega) (growslice_fits (by omega) (by rw [hby]; exact hbytes))
      rw [r1] at hr
      cases hr
      right; rfl
theorem app_str_at (t u ty e : TypeId) (i : TypeInfo) (ht : P.underlying t = some (.slice e)) (hu : P.underlying u = some .string) (hi : P.info? e = some i) (hz : i.zero = some (.int .u8 0)) (hsize : i.size = 1) (hby : i.bytes = 1)
    (v : Value) (n : Nat) (xs : List Value) (hown : w.ownsRowF 0 e 1 v n xs) (s : ByteArray) (h63 : n + s.size ≤ maxLen) (hbytes : n + s.size ≤ 140737488355328) :
    ∃ v' w', (Builtin.append_ #[t, u] ty #[v, .string s]).run P w = .ok v' w' ∧ w'.ownsRowF 0 e 1 v' (n + s.size) (xs ++ Lib.strCells s) ∧ w.grownBy w' v.ownBlock ∧ (v' = .slice none 0 0 ↔ v = .slice none 0 0 ∧ s.size = 0) ∧ (v'.ownBlock = v.ownBlock ∨ v'.ownBlock = some w.heap.size) := by
  obtain ⟨v', w', r1, r2, r3, r4⟩ := Lib.run_append_own_stringF (P := P) w 0 t u ty e i ht hu hi hz hsize hby v n xs hown s h63 hbytes (Nat.zero_le _)
  refine ⟨v', w', r1, r2, r3, r4, ?_⟩
  rcases hown.2 with ⟨rfl, rfl⟩ | ⟨g, cap, cur, fz, rfl, hbg, hg, hfz, hnc, hcm, hcs, htake⟩
  · by_cases h0 : s.size = 0
    · rw [r4.2 ⟨rfl, h0⟩]; left; rfl
    · have hr := run_append_nil_string (P := P) w t u ty e i (.int .u8 0) ht hu hi hz s (by omega) (by unfold maxLen at h63; omega) (by rw [hby]; omega)
      rw [r1] at hr
      cases hr
      right; rfl
  · by_cases hroom : n + s.size ≤ cap
    · have hr := Lib.run_append_room_stringF (P := P) w t u ty e i ht hu hi hsize g n cap cur fz hg (by simpa using hfz) s hroom (by rw [hcs]; omega)
      rw [r1] at hr
      cases hr
      left; rfl
    · have holds : ∀ j u, xs[j]? = some u → w.cell? ((⟨g, 0, none⟩ : Addr).add j) = some u := hown.cells (g := g) rfl
      have hr := Lib.run_append_grow_string (P := P) w t u ty e i (.int .u8 0) ht hu hi hz ⟨g, 0, none⟩ n cap xs (by rw [hsize]; exact hown.1) holds s (by omega) (by unfold maxLen at h63; omega) (by rw [hby]; exact growslice_fits (by omega) (by omega))
      rw [r1] at hr
      cases hr
      right; rfl
end
theorem ownsRowF_same {w w1 : World} {base : Nat} {e : TypeId} {size n : Nat} {v : Value} {xs : List Value} (h : w.ownsRowF base e size v n xs) (hm : ∀ k, v.ownBlock = some k → w1.heap[k]? = w.heap[k]?) : w1.ownsRowF base e size v n xs := by
  obtain ⟨h1, h2⟩ := h
  refine ⟨h1, ?_⟩
  rcases h2 with h2 | ⟨g, cap, cur, fz, rfl, hg, hh, r⟩
  · exact .inl h2
  · exact .inr ⟨g, cap, cur, fz, rfl, hg, (hm g (by simp [Value.ownBlock])).trans hh, r⟩
/-- What the writer's row holds. -/
def own (w : World) (v : Value) (l : List Nat) : Prop := w.ownsRowF 0 5 1 v l.length (Brow.v8 l) ∧ (l = [] → v = .slice none 0 0)
/-- A writer in block b that holds the bytes l. -/
def wrtS (b : Nat) (l : List Nat) (w : World) (P : Nat → Prop) : Prop := ∃ (p v : Value), (p = Value.pointer none ∨ p = Value.pointer (some ⟨b, 0, none⟩)) ∧ Blk w b #[p, v] 129 ∧ own w v l ∧ v.ownBlock ≠ some b ∧ ∀ k, P k ↔ k = b ∨ v.ownBlock = some k
theorem wrtS_same {b : Nat} {l : List Nat} {w w' : World} {P : Nat → Prop} (h : wrtS b l w P) (hs : ∀ k, P k → w'.heap[k]? = w.heap[k]?) : wrtS b l w' P := by
  obtain ⟨p, v, h1, h2, h3, h4, h5⟩ := h
  exact ⟨p, v, h1, (hs b ((h5 b).2 (.inl rfl))).trans h2, ⟨ownsRowF_same h3.1 (fun k hk => hs k ((h5 k).2 (.inr hk))), h3.2⟩, h4, h5⟩
theorem wrtS_lt {b : Nat} {l : List Nat} {w : World} {P : Nat → Prop} (h : wrtS b l w P) : ∀ k, P k → k < w.heap.size := by
  obtain ⟨p, v, h1, h2, h3, h4, h5⟩ := h
  intro k hk
  rcases (h5 k).1 hk with rfl | hk
  · exact Blk.lt h2
  · exact (h3.1.lt k hk).2
def wrt (b : Nat) (l : List Nat) : Asn where
  says w P := wrtS b l w P
  same := wrtS_same
  lt := wrtS_lt
theorem own_slice {w : World} {v : Value} {l : List Nat} (h : own w v l) : ∃ a c, v = .slice a l.length c := by
  rcases h.1.2 with ⟨h1, h2⟩ | ⟨g, cap, cur, fz, rfl, _⟩
  · rw [h2]; exact ⟨_, _, h1⟩
  · exact ⟨_, _, rfl⟩
/-- An empty one, new. -/
theorem new_wrt {w0 w : World} {L : List Asn} (h : Sp w0 L w) (b : Nat) (hb : b = w.heap.size) : Sp w0 (wrt b [] :: L) (w.alloc (.cells #[.pointer none, .slice none 0 0] 129)) := by
  subst hb
  refine (h.new #[.pointer none, .slice none 0 0] 129).turn (fun P ⟨h1, h2⟩ h3 => ⟨P, ⟨_, _, .inl rfl, h1, ⟨World.ownsRowF_nil _ _ _ _, fun _ => rfl⟩, by simp [Value.ownBlock], fun k => ?_⟩, fun i hi => .inl hi, Keep.refl _ _⟩)
  rw [h2]; simp [Value.ownBlock]

set_option maxHeartbeats 1000000 in
set_option maxRecDepth 100000 in
theorem copy_calls (b : Nat) (p v : Value) (w : World) (hp : p = .pointer none ∨ p = .pointer (some ⟨b, 0, none⟩)) (hb : Blk w b #[p, v] 129) :
    Calls Try.prog 87 #[.pointer (some ⟨b, 0, none⟩)] w fun e w' => e = .returned (.tuple #[]) ∧ Blk w' b #[.pointer (some ⟨b, 0, none⟩), v] 129 ∧ Keep (· = b) w w' := by
  have c0 : w.cell? ⟨b, 0, none⟩ = some p := hb.cell 0
  have hz : w.frozen? ⟨b, 0, none⟩ = false := hb.frozen 0
  obtain ⟨j, hj, hjs⟩ := Option.map_eq_some_iff.1 (show (Try.prog.info? 127).map (·.size) = some 2 by kernel_rfl)
  have u1 : Try.prog.underlying 125 = some (.pointer 127) := by kernel_rfl
  have u2 : Try.prog.underlying 173 = some .unsafePointer := by kernel_rfl
  have hsh : w.shape? b = some (129, 2) := by have h : w.heap[b]? = _ := hb; simp [World.shape?, h]
  rcases hp with rfl | rfl
  · have k1 := Lib.run_to_unsafe (P := Try.prog) w (src := 125) (dst := 173) ⟨b, 0, none⟩ u1 u2 hj (by rw [hjs]; decide) hsh (Nat.zero_lt_succ 1)
    have k2 := Lib.run_from_unsafe (P := Try.prog) w (src := 173) (dst := 125) ⟨b, 0, none⟩ u2 u1 hj hsh (by kernel_rfl)
    have k3 : (callFunc 99 #[.pointer (some ⟨b, 0, none⟩)]).run Try.prog w = .ok (.value (.pointer (some ⟨b, 0, none⟩))) w := by
      rw [run_callFunc_extern Try.func99 (by kernel_rfl) (by kernel_rfl) (by kernel_rfl) (e := Extern.AbiNoEscape.same) (by kernel_rfl)]
      rw [Lib.run_noEscape]; rfl
    have HB := Lib.hid hb
    clear hj hjs hsh hb
    go_enter Try.func87, Try.ntmps87
    go_wp2
    go_end0
    exact ⟨rfl, HB.out.set 0 _, (Keep.refl (· = b) w).setCell (p := ⟨b, 0, none⟩) (.inl rfl) _⟩
  · have k1 := Lib.run_neq_ptr_same (P := Try.prog) w ⟨b, 0, none⟩ u1 hj
    have HB := Lib.hid hb
    clear hj hjs hsh hb
    go_enter Try.func87, Try.ntmps87
    go_wp2
    go_end0
    exact ⟨rfl, HB.out, Keep.refl _ _⟩

section
variable {w0 w : World} {L : List Asn} {b : Nat} {l : List Nat}
theorem v8_one (l : List Nat) : ∀ u ∈ Brow.v8 l, u.oneCell' = true := by
  intro u hu
  unfold Brow.v8 at hu
  obtain ⟨b, _, rfl⟩ := List.mem_map.1 hu
  rfl
theorem v8_app (l m : List Nat) : Brow.v8 l ++ Brow.v8 m = Brow.v8 (l ++ m) := by unfold Brow.v8; rw [List.map_append]
theorem v8_str (s : ByteArray) : Lib.strCells s = Brow.v8 (by8 s) := by
  unfold Lib.strCells Brow.v8 by8
  rw [List.map_map]; rfl
theorem v8_bytes {l : List Nat} (h : ∀ x ∈ l, x < 256) : Brow.v8 l = Lib.byteCells (l.map UInt8.ofNat) := by
  unfold Brow.v8 Lib.byteCells
  rw [List.map_map]
  exact List.map_congr_left fun x hx => by simp [Nat.mod_eq_of_lt (h x hx)]
/-- The state behind a store of the new row. -/
theorem stored {v v' : Value} {w1 w2 : World} {l' : List Nat} {P : Nat → Prop} (hP : ∀ k, P k ↔ k = b ∨ v.ownBlock = some k) (hne : v.ownBlock ≠ some b) (hb1 : Blk w1 b #[.pointer (some ⟨b, 0, none⟩), v] 129) (hk1 : Keep P w w1)
    (hown2 : w2.ownsRowF 0 5 1 v' l'.length (Brow.v8 l')) (hnil : l' = [] → v' = .slice none 0 0) (hgrow : w1.grownBy w2 v.ownBlock) (hat : v'.ownBlock = v.ownBlock ∨ ∃ g, v'.ownBlock = some g ∧ w1.heap.size ≤ g) :
    Blk w2 b #[.pointer (some ⟨b, 0, none⟩), v] 129 ∧ ∃ P', (wrt b l').says (w2.setCell ⟨b, 1, none⟩ v') P' ∧ (∀ i, P' i → P i ∨ w.heap.size ≤ i) ∧ Keep P w (w2.setCell ⟨b, 1, none⟩ v') := by
  have hlt := Blk.lt hb1
  have hb2 : Blk w2 b #[.pointer (some ⟨b, 0, none⟩), v] 129 := (hgrow.block b hlt (fun e => hne e.symm)).trans hb1
  have hne2 : v'.ownBlock ≠ some b := by
    rcases hat with e | ⟨g, e, hg⟩
    · rw [e]; exact hne
    · rw [e]; intro e2; have := Option.some.inj e2; omega
  refine ⟨hb2, fun k => k = b ∨ v'.ownBlock = some k, ⟨_, v', .inr rfl, hb2.set 1 v', ⟨ownsRowF_same hown2 (fun k hk => Below.heap_setCell _ _ _ _ (fun e => hne2 (by rw [hk]; exact congrArg some e))), hnil⟩, hne2, fun k => Iff.rfl⟩, ?_, ?_⟩
  · rintro i (rfl | hi)
    · exact .inl ((hP _).2 (.inl rfl))
    · rcases hat with e | ⟨g, e, hg⟩
      · exact .inl ((hP _).2 (.inr (e ▸ hi)))
      · rw [e] at hi; have := Option.some.inj hi; have := hk1.size; right; omega
  · have k2 : Keep P w1 w2 := ⟨hgrow.os, hgrow.tape, hgrow.output, hgrow.size, fun k hk hn => hgrow.block k hk (fun e => hn ((hP k).2 (.inr e.symm)))⟩
    exact (hk1.trans k2).setCell (.inl ((hP b).2 (.inl rfl))) _
set_option maxHeartbeats 2000000 in
set_option maxRecDepth 100000 in
theorem byte_calls (c : Nat) (h : Sp w0 (wrt b l :: L) w) (hl : l.length ≤ 100000) :
    Calls Try.prog 75 #[.pointer (some ⟨b, 0, none⟩), .int .u8 (c : Nat)] w fun e w' => e = .returned .nilIface ∧ Sp w0 (wrt b (l ++ [c]) :: L) w' := by
  obtain ⟨P, ⟨p, v, hp, hb, ⟨hown, hnil⟩, hne, hP⟩, hr, put⟩ := h.split
  obtain ⟨i0, hi0, hz0, hs0, hb0⟩ := Brow.info8
  have HC := Lib.hid (copy_calls b p v w hp hb)
  have HP := Lib.hid (And.intro hP (And.intro hne (And.intro hown put)))
  have HI := Lib.hid (And.intro hi0 (And.intro hz0 (And.intro hs0 hb0)))
  clear h hp hb hown hnil hne hP hr put hi0 hz0 hs0 hb0
  go_enter Try.func75, Try.ntmps75
  go_wp2_with fail
  refine HC.out.mono ?_
  rintro e w1 ⟨rfl, hb1, hk1⟩
  obtain ⟨hP, hne, hown, put⟩ := HP.out
  have hown1 := ownsRowF_same (w1 := w1) hown (fun k hk => hk1.block k (hown.lt k hk).2 (fun e => hne (by rw [hk]; exact congrArg some e)))
  obtain ⟨hi0, hz0, hs0, hb0⟩ := HI.out
  have hbk := Blk.new w1 #[.int .u8 (c : Nat)] 5
  obtain ⟨v', w2, hrun, hown2, hgrow, hat⟩ := app_at (P := Try.prog) (w1.alloc (.cells #[.int .u8 (c : Nat)] 5)) 48 48 5 i0 (.int .u8 0) 1 (by kernel_rfl) hi0 hz0 hs0 hb0 rfl v l.length (Brow.v8 l) (hown1.alloc _) ⟨w1.heap.size, 0, none⟩ 1 1 (Brow.v8 [c]) rfl (fun j u hu => by
    rw [Addr.add_mid, Nat.zero_add, hbk.cell]; simpa [Brow.v8] using hu) (v8_one _) (by unfold maxLen; omega) (by omega)
  rw [v8_app] at hown2
  have hb3 : Blk (w1.alloc (.cells #[.int .u8 (c : Nat)] 5)) b _ 129 := hb1.alloc _
  have hk3 : Keep P w (w1.alloc (.cells #[.int .u8 (c : Nat)] 5)) := (hk1.mono (fun k _ e => (hP k).2 (.inl e))).alloc _
  have hst := stored (l' := l ++ [c]) hP hne hb3 hk3 (by rw [List.length_append]; exact hown2) (fun e => by simp at e) hgrow (by
    rcases hat with e | e
    · exact .inl e
    · exact .inr ⟨_, e, Nat.le_refl _⟩)
  obtain ⟨a', c', rfl⟩ : ∃ a' c', v' = .slice a' (l.length + 1) c' := by
    rcases hown2.2 with ⟨h1, h2⟩ | ⟨g, cap, cur, fz, h1, _⟩
    · omega
    · exact ⟨_, _, h1⟩
  have c1 : w1.cell? ⟨b, 1, none⟩ = some v := hb1.cell 1
  have d1 : w2.cell? ⟨b, 1, none⟩ = some v := hst.1.cell 1
  have f1 : w2.frozen? ⟨b, 1, none⟩ = false := hst.1.frozen 1
  have HF := Lib.hid (put _ _ hst.2)
  clear hb1 hk1 hP hne hown put hown1 hi0 hz0 hs0 hb0 hbk hown2 hgrow hat hb3 hk3 hst HP HI
  go_wp2_with (at_builtin; refine wpList_append_run rfl _ _ _ _ rfl _ _ rfl rfl hrun ?_)
  go_wp2
  go_ret
  exact ⟨rfl, HF.out⟩
set_option maxHeartbeats 2000000 in
set_option maxRecDepth 100000 in
theorem str_calls (s : ByteArray) (h : Sp w0 (wrt b l :: L) w) (hl : l.length ≤ 100000) (hs : s.size ≤ 100000) :
    Calls Try.prog 64 #[.pointer (some ⟨b, 0, none⟩), .string s] w fun e w' => e = .returned (.tuple #[.int .i64 s.size, .nilIface]) ∧ Sp w0 (wrt b (l ++ by8 s) :: L) w' := by
  obtain ⟨P, ⟨p, v, hp, hb, ⟨hown, hnil⟩, hne, hP⟩, hr, put⟩ := h.split
  obtain ⟨i0, hi0, hz0, hs0, hb0⟩ := Brow.info8
  have HC := Lib.hid (copy_calls b p v w hp hb)
  have HP := Lib.hid (And.intro hP (And.intro hne (And.intro hown (And.intro hnil put))))
  have HI := Lib.hid (And.intro hi0 (And.intro hz0 (And.intro hs0 hb0)))
  clear h hp hb hown hnil hne hP hr put hi0 hz0 hs0 hb0
  go_enter Try.func64, Try.ntmps64
  go_wp2_with fail
  refine HC.out.mono ?_
  rintro e w1 ⟨rfl, hb1, hk1⟩
  obtain ⟨hP, hne, hown, hnil, put⟩ := HP.out
  have hown1 := ownsRowF_same (w1 := w1) hown (fun k hk => hk1.block k (hown.lt k hk).2 (fun e => hne (by rw [hk]; exact congrArg some e)))
  obtain ⟨hi0, hz0, hs0, hb0⟩ := HI.out
  obtain ⟨v', w2, hrun, hown2, hgrow, hni, hat⟩ := app_str_at (P := Try.prog) w1 48 9 48 5 i0 (by kernel_rfl) (by kernel_rfl) hi0 hz0 hs0 hb0 v l.length (Brow.v8 l) hown1 s (by unfold maxLen; omega) (by omega)
  rw [v8_str, v8_app] at hown2
  have hst := stored (l' := l ++ by8 s) hP hne hb1 (hk1.mono (fun k _ e => (hP k).2 (.inl e))) (by rw [List.length_append, by8_length]; exact hown2) (fun e => by
    have e2 := List.append_eq_nil_iff.1 e
    have e3 := by8_length s
    rw [e2.2] at e3
    exact hni.2 ⟨hnil e2.1, e3.symm⟩) hgrow (by
    rcases hat with e | e
    · exact .inl e
    · exact .inr ⟨_, e, Nat.le_refl _⟩)
  obtain ⟨a', n', c', rfl⟩ : ∃ a' n' c', v' = .slice a' n' c' := by
    rcases hown2.2 with ⟨h1, h2⟩ | ⟨g, cap, cur, fz, h1, _⟩
    · exact ⟨_, _, _, h1⟩
    · exact ⟨_, _, _, h1⟩
  have c1 : w1.cell? ⟨b, 1, none⟩ = some v := hb1.cell 1
  have d1 : w2.cell? ⟨b, 1, none⟩ = some v := hst.1.cell 1
  have f1 : w2.frozen? ⟨b, 1, none⟩ = false := hst.1.frozen 1
  have HF := Lib.hid (put _ _ hst.2)
  clear hb1 hk1 hP hne hown hnil put hown1 hi0 hz0 hs0 hb0 hown2 hgrow hni hat hst HP HI
  go_wp2_with (at_builtin; refine wpList_append_run rfl _ _ _ _ rfl _ _ rfl rfl hrun ?_)
  go_wp2
  go_ret2
  exact ⟨rfl, HF.out⟩
theorem len_calls (h : Sp w0 (wrt b l :: L) w) :
    Calls Try.prog 76 #[.pointer (some ⟨b, 0, none⟩)] w fun e w' => e = .returned (.int .i64 l.length) ∧ w' = w := by
  obtain ⟨P, ⟨p, v, hp, hb, hown, hne, hP⟩, hr, put⟩ := h.split
  obtain ⟨a, c, rfl⟩ := own_slice hown
  have c1 : w.cell? ⟨b, 1, none⟩ = some (.slice a l.length c) := hb.cell 1
  clear h hp hb hown hne hP hr put
  go_enter Try.func76, Try.ntmps76
  go_wp2
  go_ret
  exact ⟨rfl, rfl⟩
set_option maxHeartbeats 2000000 in
set_option maxRecDepth 100000 in
theorem string_calls (h : Sp w0 (wrt b l :: L) w) (hl : l.length ≤ 100000) (hx : ∀ x ∈ l, x < 256) :
    Calls Try.prog 66 #[.pointer (some ⟨b, 0, none⟩)] w fun e w' => e = .returned (.string (bts l)) ∧ Sp w0 (wrt b l :: L) w' := by
  obtain ⟨P, ⟨p, v, hp, hb, ⟨hown, hnil⟩, hne, hP⟩, hr, put⟩ := h.split
  by_cases h0 : l = []
  · subst h0
    obtain rfl := hnil rfl
    have e0 : bts [] = ⟨#[]⟩ := by unfold bts B8.bytes; rfl
    have hUS : (Builtin.unsafeString_ #[150, 3] 9 #[.pointer none, .int .i64 0]).run Try.prog w.drew = .ok (.string .empty) w.drew := Lib.run_unsafeString_none w.drew _ _ _ none
    have c1 : w.drew.cell? ⟨b, 1, none⟩ = some (.slice none 0 0) := hb.cell 1
    have hSD : (Builtin.unsafeSliceData_ #[48] 150 #[.slice none 0 0]).run Try.prog w.drew = .ok (.pointer none) w.drew := rfl
    have HF := Lib.hid h.drew
    rw [e0]
    clear h hp hb hown hnil hne hP hr put e0
    go_enter Try.func66, Try.ntmps66
    go_wp2
    go_region
    all_goals (go_wp2; go_ret; exact ⟨rfl, HF.out⟩)
  · obtain ⟨N, hN⟩ : ∃ N, N = l.length := ⟨_, rfl⟩
    have hN0 : N ≠ 0 := by rw [hN]; simpa using h0
    obtain ⟨M, hM⟩ : ∃ M, M = l.map UInt8.ofNat := ⟨_, rfl⟩
    have hMl : M.length = N := by rw [hM, List.length_map, hN]
    have hv8 : Brow.v8 l = Lib.byteCells M := by rw [hM]; exact v8_bytes hx
    have hbt : bts l = ⟨M.toArray⟩ := by rw [hM]; rfl
    obtain ⟨g, cap, cur, fz, rfl, hg, hfz, hnc, hcm, hcs, htake⟩ : ∃ g cap cur fz, v = .slice (some ⟨g, 0, none⟩) N cap ∧ w.heap[g]? = some (.cells cur 5 fz) ∧ fz.2 ≤ N * 1 ∧ N ≤ cap ∧ cap ≤ maxLen ∧ cur.size = cap * 1 ∧ cur.toList.take (N * 1) = Brow.v8 l := by
      rw [hN]
      rcases hown.2 with ⟨_, hz⟩ | ⟨g, cap, cur, fz, hv, _, r⟩
      · exact absurd hz (by rw [← hN]; exact hN0)
      · exact ⟨g, cap, cur, fz, hv, r⟩
    have c1 : w.drew.cell? ⟨b, 1, none⟩ = some (.slice (some ⟨g, 0, none⟩) N cap) := hb.cell 1
    have hSD : (Builtin.unsafeSliceData_ #[48] 150 #[.slice (some ⟨g, 0, none⟩) N cap]).run Try.prog w.drew = .ok (.pointer (some ⟨g, 0, none⟩)) w.drew := Lib.run_unsafeSliceData_row _ _ _ _ _ _ (by omega)
    have hUS : (Builtin.unsafeString_ #[150, 3] 9 #[.pointer (some ⟨g, 0, none⟩), .int .i64 N]).run Try.prog w.drew = .ok (.string ⟨M.toArray⟩) (w.drew.freeze ⟨g, 0, none⟩ N) := by
      rw [← hMl]
      refine Lib.run_unsafeString_row w.drew 150 3 9 5 (by kernel_rfl) (by kernel_rfl) g cur.size (by have hg' : w.drew.heap[g]? = some (.cells cur 5 fz) := hg; simp [World.shape?, hg']) M (fun e => hN0 (by rw [← hMl, e]; rfl)) (by omega) (by unfold maxLen at hcm; omega) ?_
      intro j x hx
      exact hown.cells (g := g) rfl j (.int .u8 x.toNat) (by rw [hv8]; simp [Lib.byteCells, hx])
    have hA : Lib.BuilderAtF 129 5 0 b p (Brow.v8 l) w.drew := ⟨Nat.zero_le _, _, hb, by rw [Brow.v8_len]; exact hown, hne⟩
    have hlv : (Brow.v8 l).length = N := by rw [Brow.v8_len, hN]
    have hF := hA.froze (g := g) (cap := cap) (by rw [hlv]; exact c1)
    rw [hlv] at hF
    obtain ⟨_, v2, hb2, hown2, hne2⟩ := hF
    have hfr : ∀ k, k ≠ g → (w.drew.freeze ⟨g, 0, none⟩ N).heap[k]? = w.heap[k]? := fun k hk => by
      unfold World.freeze
      split
      · rfl
      · show (w.drew.heap.modify g _)[k]? = _
        rw [Array.getElem?_modify, if_neg (by omega)]; rfl
    have hbg : b ≠ g := fun e => hne (by rw [e]; rfl)
    have e2 : v2 = .slice (some ⟨g, 0, none⟩) N cap := by
      rw [hfr b hbg] at hb2
      have hb' : w.heap[b]? = _ := hb
      rw [hb'] at hb2
      cases hb2; rfl
    subst e2
    have hk : Keep P w (w.drew.freeze ⟨g, 0, none⟩ N) := by
      have hPg : P g := (hP g).2 (.inr rfl)
      refine ⟨?_, ?_, ?_, ?_, fun k _ hn => hfr k (fun e => hn (e ▸ hPg))⟩
      all_goals (unfold World.freeze; split <;> first | rfl | simp)
    have HF := Lib.hid (put (wrt b l) _ ⟨P, ⟨p, _, hp, hb2, ⟨by rw [Brow.v8_len] at hown2; exact hown2, fun e => (h0 e).elim⟩, hne2, hP⟩, fun i hi => .inl hi, hk⟩)
    rw [hbt]
    clear h hp hb hown hnil hne hP hr put hbt hv8 hM hN hx h0 hN0 hMl hg hfz hnc hcm hcs htake hA hlv hb2 hown2 hne2 hfr hbg hk hl
    go_enter Try.func66, Try.ntmps66
    go_wp2
    go_region
    all_goals (go_wp2; go_ret; exact ⟨rfl, HF.out⟩)
end
end Go.Proofs.Ytmpbohbecidkhaa.Wr
