/- label.New, walked: a label whose rows it owns. -/
import Derived.Test.YtmpbohbecidkhaaLabPut
import Derived.RegionTactic
namespace Go.Proofs.Ytmpbohbecidkhaa.Lab
open Go.RowKit Go.Proofs.Ytmpbohbecidkhaa.Mem Go.Proofs.Ytmpbohbecidkhaa.Sep Go.Proofs.Ytmpbohbecidkhaa.Num Go.Proofs.Ytmpbohbecidkhaa.B8 Go.Proofs.Ytmpbohbecidkhaa.CrcS Go.Proofs.Ytmpbohbecidkhaa.Bld
open Go.Proofs.YtmpbohbecidkhaaW.PrintWords hiding bt
set_option linter.unusedVariables false
set_option linter.unusedSimpArgs false

def vi (L : List Int) : Array Value := (L.map (Value.int .i64)).toArray
theorem vi_rw {w : World} {b : Nat} {L : List Int} {T : TypeId} (h : Blk w b (vi L) T) : Rw w (some ⟨b, 0, none⟩) L := fun i x hx => by
  refine ⟨_, rfl, ?_⟩
  rw [Addr.add_mid, Nat.zero_add, h.cell]
  unfold vi
  rw [List.getElem?_toArray, List.getElem?_map, hx]; rfl
theorem madeI (W : World) (N : Nat) (hN : N ≤ 100000) : (Instr.makeSlice 22 (.int .i64 (N : Nat)) (.int .i64 (N : Nat))).run Try.prog W = .ok (.slice (some ⟨W.heap.size, 0, none⟩) N N) (W.alloc (.cells (vi (List.replicate N 0)) 3)) := by
  obtain ⟨info, hinfo, hz, hsz, hby⟩ : ∃ i, Try.prog.info? 3 = some i ∧ i.zero = some (.int .i64 0) ∧ i.size = 1 ∧ i.bytes = 8 := by
    have h : (Try.prog.info? 3).map (fun i => (i.zero, i.size, i.bytes)) = some (some (.int .i64 0), 1, 8) := by kernel_rfl
    cases hq : Try.prog.info? 3 with
    | none => rw [hq] at h; simp at h
    | some i =>
      rw [hq] at h
      simp at h
      exact ⟨i, rfl, h.1, h.2.1, h.2.2⟩
  have h := run_makeSlice (P := Try.prog) W 22 3 info (.int .i64 0) (by kernel_rfl) hinfo hz .i64 .i64 N N (by omega) (by omega) (by rw [hsz]; omega) (by rw [hby]; omega) (by omega)
  rw [hsz, Int.toNat_natCast, Nat.mul_one] at h
  have e : madeCells (Value.int .i64 0).cells N = vi (List.replicate N 0) := by
    apply Array.ext
    · rw [size_madeCells]; unfold vi; simp
    · intro i h1 h2
      have e : (Value.int IntKind.i64 0).cells = #[.int .i64 0] := rfl
      unfold vi
      simp only [madeCells, e, Array.getElem_map, List.map_replicate, List.getElem_toArray, List.getElem_replicate]
      simp [Nat.mod_one]
  rw [e] at h
  exact h
theorem madeS (W : World) (N : Nat) (hN : N ≤ 100000) : (Instr.makeSlice 27 (.int .i64 (N : Nat)) (.int .i64 (N : Nat))).run Try.prog W = .ok (.slice (some ⟨W.heap.size, 0, none⟩) N N) (W.alloc (.cells (vi (List.replicate N 0)) 67)) := by
  obtain ⟨info, hinfo, hz, hsz, hby⟩ : ∃ i, Try.prog.info? 67 = some i ∧ i.zero = some (.int .i64 0) ∧ i.size = 1 ∧ i.bytes = 8 := by
    have h : (Try.prog.info? 67).map (fun i => (i.zero, i.size, i.bytes)) = some (some (.int .i64 0), 1, 8) := by kernel_rfl
    cases hq : Try.prog.info? 67 with
    | none => rw [hq] at h; simp at h
    | some i =>
      rw [hq] at h
      simp at h
      exact ⟨i, rfl, h.1, h.2.1, h.2.2⟩
  have h := run_makeSlice (P := Try.prog) W 27 67 info (.int .i64 0) (by kernel_rfl) hinfo hz .i64 .i64 N N (by omega) (by omega) (by rw [hsz]; omega) (by rw [hby]; omega) (by omega)
  rw [hsz, Int.toNat_natCast, Nat.mul_one] at h
  have e : madeCells (Value.int .i64 0).cells N = vi (List.replicate N 0) := by
    apply Array.ext
    · rw [size_madeCells]; unfold vi; simp
    · intro i h1 h2
      have e : (Value.int IntKind.i64 0).cells = #[.int .i64 0] := rfl
      unfold vi
      simp only [madeCells, e, Array.getElem_map, List.map_replicate, List.getElem_toArray, List.getElem_replicate]
      simp [Nat.mod_one]
  rw [e] at h
  exact h
/-- A label that a maker hands over: its rows can be read. -/
def Got (w' : World) (v : Value) (l : Lb) : Prop := ∃ a1 n1 c1 a2 n2 c2, v = lval l a1 n1 c1 a2 n2 c2 ∧ l.st.length = n1 ∧ l.mr.length = n2 ∧ n1 ≤ 100000 ∧ n2 ≤ 100000 ∧ Rw w' a1 l.st ∧ Rw w' a2 l.mr
def fresh (m t : Int) : Lb := if ggood m t then ⟨m, t, 1, List.replicate m.toNat 0, List.replicate m.toNat 0⟩ else Lb.zero
def freshE (m t : Int) : Int := if ggood m t then 0 else 4
theorem Rw.nil (w : World) (a : Option Addr) : Rw w a [] := fun i x hx => by simp at hx
theorem five {w : World} {b : Nat} {v0 v1 v2 v3 v4 : Value} {T : TypeId} (h : Blk w b #[v0, v1, v2, v3, v4] T) :
    (w.cell? ⟨b, 0, none⟩ = some v0 ∧ w.cell? ⟨b, 1, none⟩ = some v1 ∧ w.cell? ⟨b, 2, none⟩ = some v2 ∧ w.cell? ⟨b, 3, none⟩ = some v3 ∧ w.cell? ⟨b, 4, none⟩ = some v4) ∧
    w.frozen? ⟨b, 0, none⟩ = false ∧ w.frozen? ⟨b, 1, none⟩ = false ∧ w.frozen? ⟨b, 2, none⟩ = false ∧ w.frozen? ⟨b, 3, none⟩ = false ∧ w.frozen? ⟨b, 4, none⟩ = false :=
  ⟨⟨h.cell 0, h.cell 1, h.cell 2, h.cell 3, h.cell 4⟩, h.frozen 0, h.frozen 1, h.frozen 2, h.frozen 3, h.frozen 4⟩
theorem below5 {a b : World} (h : Below a.heap.size a b) {g : Nat} (hg : a.heap.size ≤ g) (v0 v1 v2 v3 v4 : Value) : Below a.heap.size a (((((b.setCell ⟨g, 0, none⟩ v0).setCell ⟨g, 1, none⟩ v1).setCell ⟨g, 2, none⟩ v2).setCell ⟨g, 3, none⟩ v3).setCell ⟨g, 4, none⟩ v4) :=
  bs (bs (bs (bs (bs h hg _) hg _) hg _) hg _) hg _
theorem two_new {Z : World} {s : Nat} (hs : Z.heap.size = s) (C C' : Array Value) (T T' : TypeId) : Blk ((Z.alloc (.cells C T)).alloc (.cells C' T')).drew s C T ∧ Blk ((Z.alloc (.cells C T)).alloc (.cells C' T')).drew (s + 1) C' T' := by
  subst hs
  refine ⟨((Blk.new Z C T).alloc _).drew, ?_⟩
  have := (Blk.new (Z.alloc (.cells C T)) C' T').drew
  rw [show (Z.alloc (.cells C T)).heap.size = Z.heap.size + 1 by simp] at this
  exact this
theorem new_ret {W : World} {b : Nat} {v0 v1 v2 v3 v4 e : Value} {T : TypeId} (hb : Blk W b #[v0, v1, v2, v3, v4] T) {Q : Ending → World → Prop} (x0 x1 x4 x5 x6 x7 x8 x9 x10 x11 x12 x13 x14 x15 : Value) (h : Q (.returned (.tuple #[.agg #[v0, v1, v2, v3, v4], e])) W) :
    bodyPost Try.prog Try.f17 Q Exit.ret { tmps := #[x0, x1, .pointer (some ⟨b, 0, none⟩), e, x4, x5, x6, x7, x8, x9, x10, x11, x12, x13, x14, x15], defers := [] } W := by
  obtain ⟨⟨c0, c1, c2, c3, c4⟩, _⟩ := five hb
  exact bodyPost_ret (v := .tuple #[.agg #[v0, v1, v2, v3, v4], e]) (by simp [results, Try.results17, go_sem, *]) rfl h
theorem World.size_set5 (w : World) (b : Nat) (v0 v1 v2 v3 v4 : Value) : (((((w.setCell ⟨b, 0, none⟩ v0).setCell ⟨b, 1, none⟩ v1).setCell ⟨b, 2, none⟩ v2).setCell ⟨b, 3, none⟩ v3).setCell ⟨b, 4, none⟩ v4).heap.size = w.heap.size := by simp
theorem Blk.set5 {w : World} {b : Nat} {u0 u1 u2 u3 u4 : Value} {T : TypeId} (h : Blk w b #[u0, u1, u2, u3, u4] T) (v0 v1 v2 v3 v4 : Value) :
    Blk (((((w.setCell ⟨b, 0, none⟩ v0).setCell ⟨b, 1, none⟩ v1).setCell ⟨b, 2, none⟩ v2).setCell ⟨b, 3, none⟩ v3).setCell ⟨b, 4, none⟩ v4) b #[v0, v1, v2, v3, v4] T :=
  ((((h.set 0 v0).set 1 v1).set 2 v2).set 3 v3).set 4 v4
attribute [local irreducible] vi

set_option maxHeartbeats 8000000 in
set_option maxRecDepth 100000 in
theorem new_calls (m t : Int) (w : World) :
    Calls Try.prog 17 #[.agg #[.int .i64 m, .int .i64 t]] w fun e w' => (∃ v, e = .returned (.tuple #[v, .int .i64 (freshE m t)]) ∧ Got w' v (fresh m t)) ∧ Below w.heap.size w w' := by
  have HG := Lib.hid (ggood_calls m t)
  have hb0 := Blk.new (w.alloc (.cells #[.int .i64 m, .int .i64 t] 26)) #[.int .i64 0, .int .i64 0, .int .i64 0, .slice none 0 0, .slice none 0 0] 29
  rw [show (w.alloc (.cells #[.int .i64 m, .int .i64 t] 26)).heap.size = w.heap.size + 1 by simp] at hb0
  have hg0 : Blk ((w.alloc (.cells #[.int .i64 m, .int .i64 t] 26)).alloc (.cells #[.int .i64 0, .int .i64 0, .int .i64 0, .slice none 0 0, .slice none 0 0] 29)) w.heap.size #[.int .i64 m, .int .i64 t] 26 := (Blk.new w _ _).alloc _
  have HB0 := Lib.hid (And.intro hb0 hg0)
  have HA := Lib.hid (ba (ba (br w) (.cells #[.int .i64 m, .int .i64 t] 26)) (.cells #[.int .i64 0, .int .i64 0, .int .i64 0, .slice none 0 0, .slice none 0 0] 29))
  clear hb0 hg0
  cases hg : ggood m t with
  | false =>
    rw [hg] at HG
    have e1 : fresh m t = Lb.zero := by unfold fresh; rw [hg]; rfl
    have e2 : freshE m t = 4 := by unfold freshE; rw [hg]; rfl
    rw [e1, e2]
    clear hg e1 e2
    go_enter Try.func17, Try.ntmps17
    go_wp2_with fail
    refine (HG.out _).mono ?_
    rintro e w' ⟨rfl, hbel⟩
    have HB := Lib.hid (bt HA.out hbel)
    have hb1 := HB0.out.1.below hbel (Blk.lt HB0.out.1)
    obtain ⟨⟨e0, e1, e2, e3, e4⟩, f0, f1, f2, f3, f4⟩ := five hb1
    clear hbel hb1
    go_wp2_with fail
    refine bodyPost_ret (v := .tuple #[.agg #[.int .i64 0, .int .i64 0, .int .i64 0, .slice none 0 0, .slice none 0 0], .int .i64 4]) (by simp [results, Try.results17, go_sem, *]) rfl ⟨⟨_, rfl, none, 0, 0, none, 0, 0, rfl, rfl, rfl, by decide, by decide, Rw.nil _ _, Rw.nil _ _⟩, ?_⟩
    exact below5 HB.out (Nat.le_succ _) _ _ _ _ _
  | true =>
    rw [hg] at HG
    have hgg : 4 ≤ m ∧ m ≤ 32 ∧ 1 ≤ t ∧ t ≤ 64 := by unfold ggood at hg; simpa using hg
    obtain ⟨N, rfl⟩ := Int.eq_ofNat_of_zero_le (show 0 ≤ m by omega)
    obtain ⟨z, hz⟩ : ∃ z, z = List.replicate N (0 : Int) := ⟨_, rfl⟩
    have hzl : z.length = N := by rw [hz, List.length_replicate]
    have e1 : fresh N t = ⟨N, t, 1, z, z⟩ := by unfold fresh; rw [hg, hz]; rfl
    have e2 : freshE N t = 0 := by unfold freshE; rw [hg]; rfl
    rw [e1, e2]
    have hN : N ≤ 32 := by omega
    go_enter Try.func17, Try.ntmps17
    go_wp2_with fail
    refine (HG.out _).mono ?_
    rintro e w' ⟨rfl, hbel⟩
    have HB := Lib.hid (bt HA.out hbel)
    have hb1 := HB0.out.1.below hbel (Blk.lt HB0.out.1)
    have hb2 := HB0.out.2.below hbel (Blk.lt HB0.out.2)
    obtain ⟨⟨e0, e1, e2, e3, e4⟩, f0, f1, f2, f3, f4⟩ := five hb1
    have g0 : w'.cell? ⟨w.heap.size, 0, none⟩ = some (.int .i64 (N : Nat)) := hb2.cell 0
    have g1 : w'.cell? ⟨w.heap.size, 1, none⟩ = some (.int .i64 t) := hb2.cell 1
    have mS := madeS w'.drew N (by omega)
    have mI := madeI w'.drew N (by omega)
    have mSI := madeI (w'.alloc (.cells (vi z) 67)).drew N (by omega)
    have mIS := madeS (w'.alloc (.cells (vi z) 3)).drew N (by omega)
    rw [← hz] at mS mI mSI mIS
    have hsz : (w'.alloc (.cells (vi z) 67)).drew.heap.size = w'.heap.size + 1 := by simp
    have hsz2 : (w'.alloc (.cells (vi z) 3)).drew.heap.size = w'.heap.size + 1 := by simp
    have mS : _ = Result.ok (Value.slice (some ⟨w'.heap.size, 0, none⟩) N N) (w'.alloc (.cells (vi z) 67)).drew := mS
    have mI : _ = Result.ok (Value.slice (some ⟨w'.heap.size, 0, none⟩) N N) (w'.alloc (.cells (vi z) 3)).drew := mI
    rw [hsz] at mSI
    rw [hsz2] at mIS
    have mSI : _ = Result.ok (Value.slice (some ⟨w'.heap.size + 1, 0, none⟩) N N) ((w'.alloc (.cells (vi z) 67)).alloc (.cells (vi z) 3)).drew := mSI
    have mIS : _ = Result.ok (Value.slice (some ⟨w'.heap.size + 1, 0, none⟩) N N) ((w'.alloc (.cells (vi z) 3)).alloc (.cells (vi z) 67)).drew := mIS
    have hq1 : w.heap.size < w'.heap.size := hb2.lt
    have hq2 : w.heap.size + 1 < w'.heap.size := hb1.lt
    have HQ := Lib.hid (And.intro hzl (And.intro hN (And.intro hb1 hq2)))
    clear hz hzl hN hsz hsz2 hb1 hb2 hgg hbel hg
    go_wp2
    go_region
    all_goals go_wp2
    · refine new_ret ((((Blk.set5 HQ.out.2.2.1 _ _ _ _ _).alloc _).alloc _).drew) _ _ _ _ _ _ _ _ _ _ _ _ _ _ ?_
      have h1 := HQ.out.1
      have h2 := HQ.out.2.1
      refine ⟨⟨_, rfl, _, N, N, _, N, N, rfl, h1, h1, by omega, by omega, ?_, ?_⟩, ?_⟩
      · exact vi_rw (two_new (World.size_set5 _ _ _ _ _ _ _) _ _ _ _).1
      · exact vi_rw (two_new (World.size_set5 _ _ _ _ _ _ _) _ _ _ _).2
      · exact bd1 (ba (ba (below5 HB.out (Nat.le_succ _) _ _ _ _ _) _) _)
    · refine new_ret ((((Blk.set5 HQ.out.2.2.1 _ _ _ _ _).alloc _).alloc _).drew) _ _ _ _ _ _ _ _ _ _ _ _ _ _ ?_
      have h1 := HQ.out.1
      have h2 := HQ.out.2.1
      refine ⟨⟨_, rfl, _, N, N, _, N, N, rfl, h1, h1, by omega, by omega, ?_, ?_⟩, ?_⟩
      · exact vi_rw (two_new (World.size_set5 _ _ _ _ _ _ _) _ _ _ _).2
      · exact vi_rw (two_new (World.size_set5 _ _ _ _ _ _ _) _ _ _ _).1
      · exact bd1 (ba (ba (below5 HB.out (Nat.le_succ _) _ _ _ _ _) _) _)
end Go.Proofs.Ytmpbohbecidkhaa.Lab
