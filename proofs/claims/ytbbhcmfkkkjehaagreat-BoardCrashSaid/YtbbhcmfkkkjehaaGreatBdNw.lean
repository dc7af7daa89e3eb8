/- label.New, its rows made since; what was made since is kept as it is. -/
import Derived.Test.YtbbhcmfkkkjehaaGreatBdA
import Derived.RegionTactic
namespace Go.Proofs.YtbbhcmfkkkjehaaGreat.Brd
open Go.RowKit Go.Proofs.YtbbhcmfkkkjehaaGreat.Mem Go.Proofs.YtbbhcmfkkkjehaaGreat.Sep Go.Proofs.YtbbhcmfkkkjehaaGreat.Member Go.Proofs.YtbbhcmfkkkjehaaGreat.Bay Go.Proofs.YtbbhcmfkkkjehaaGreat.Lab Go.Proofs.YtbbhcmfkkkjehaaGreat.App
open Go.Proofs.YtbbhcmfkkkjehaaGreatW.PrintWords hiding bt
set_option linter.unusedVariables false
set_option linter.unusedSimpArgs false

/-- The blocks from a on, as they are in w1. -/
def since (a : Nat) (w1 : World) : Asn where
  says w P := (∀ k, P k ↔ a ≤ k ∧ k < w1.heap.size) ∧ ∀ k, a ≤ k → k < w1.heap.size → w.heap[k]? = w1.heap[k]?
  same := fun ⟨h1, h2⟩ hs => ⟨h1, fun k p q => (hs k ((h1 k).2 ⟨p, q⟩)).trans (h2 k p q)⟩
  lt := fun {w P} ⟨h1, h2⟩ k hk => by
    obtain ⟨p, q⟩ := (h1 k).1 hk
    have e := h2 k p q
    rw [Array.getElem?_eq_getElem q] at e
    exact (Array.getElem?_eq_some_iff.1 e).1
section
variable {w0 w w1 w2 : World} {L : List Asn} {l : Lb} {v : Value}
theorem Sp.since (h : Sp w0 L w) (hb : Below w.heap.size w w1) : Sp w0 (Brd.since w.heap.size w1 :: L) w1 := by
  have h2 : Sp w [Brd.since w.heap.size w1] w1 := ⟨⟨fun k => w.heap.size ≤ k ∧ k < w1.heap.size, ⟨fun k => w.heap.size ≤ k ∧ k < w1.heap.size, fun _ => False, ⟨fun k => Iff.rfl, fun k _ _ => rfl⟩, fun _ h => h, fun _ _ h => h, fun k => (or_false _).symm ▸ Iff.rfl⟩, fun k hk => hk.1⟩, hb⟩
  exact Sp.join h h2
theorem since_rw {a : Nat} {x : Option Addr} {Is : List Int} (h : Sp w0 L w2) (hm : Brd.since a w1 ∈ L) (hr : Rw w1 x Is) (ha : ∀ p, x = some p → a ≤ p.block) : Rw w2 x Is := fun i y hy => by
  obtain ⟨p, hp, hc⟩ := hr i y hy
  obtain ⟨P, ⟨h1, h2⟩, _⟩ := h.mem hm
  have hlt := World.block_lt_of_cell? _ _ hc
  have hb : (p.add i).block = p.block := by unfold Addr.add; split <;> rfl
  exact ⟨p, hp, by rw [World.cell?_of_block (h2 (p.add i).block (by rw [hb]; exact ha p hp) hlt)]; exact hc⟩
theorem since_got (h : Sp w0 L w2) (hm : Brd.since w.heap.size w1 ∈ L) (hg : GotN w w1 v l) : Got w2 v l := by
  obtain ⟨a1, n1, c1, a2, n2, c2, h1, h2, h3, h4, h5, h6, h7, h8, h9⟩ := hg
  exact ⟨a1, n1, c1, a2, n2, c2, h1, h2, h3, h4, h5, since_rw h hm h6 h8, since_rw h hm h7 h9⟩
end
attribute [local irreducible] vi
set_option maxHeartbeats 8000000 in
set_option maxRecDepth 100000 in
theorem new_own (m t : Int) (hg : ggood m t = true) (w : World) :
    Calls Tryz.prog 74 #[.agg #[.int .i64 m, .int .i64 t]] w fun e w' => (∃ v, e = .returned (.tuple #[v, .int .i64 0]) ∧ GotN w w' v (fresh m t)) ∧ Below w.heap.size w w' := by
  have HG := Lib.hid (ggood_calls m t)
  have hb0 := Blk.new (w.alloc (.cells #[.int .i64 m, .int .i64 t] 40)) #[.int .i64 0, .int .i64 0, .int .i64 0, .slice none 0 0, .slice none 0 0] 43
  rw [show (w.alloc (.cells #[.int .i64 m, .int .i64 t] 40)).heap.size = w.heap.size + 1 by simp] at hb0
  have hg0 : Blk ((w.alloc (.cells #[.int .i64 m, .int .i64 t] 40)).alloc (.cells #[.int .i64 0, .int .i64 0, .int .i64 0, .slice none 0 0, .slice none 0 0] 43)) w.heap.size #[.int .i64 m, .int .i64 t] 40 := (Blk.new w _ _).alloc _
  have HB0 := Lib.hid (And.intro hb0 hg0)
  have HA := Lib.hid (ba (ba (br w) (.cells #[.int .i64 m, .int .i64 t] 40)) (.cells #[.int .i64 0, .int .i64 0, .int .i64 0, .slice none 0 0, .slice none 0 0] 43))
  clear hb0 hg0
  rw [hg] at HG
  have hgg : 4 ≤ m ∧ m ≤ 32 ∧ 1 ≤ t ∧ t ≤ 64 := by unfold ggood at hg; simpa using hg
  obtain ⟨N, rfl⟩ := Int.eq_ofNat_of_zero_le (show 0 ≤ m by omega)
  obtain ⟨z, hz⟩ : ∃ z, z = List.replicate N (0 : Int) := ⟨_, rfl⟩
  have hzl : z.length = N := by rw [hz, List.length_replicate]
  have e1 : fresh N t = ⟨N, t, 1, z, z⟩ := by unfold fresh; rw [hg, hz]; rfl
  rw [e1]
  have hN : N ≤ 32 := by omega
  go_enter Tryz.func74, Tryz.ntmps74
  go_wp2_with fail
  refine (HG.out _).mono ?_
  rintro e w' ⟨rfl, hbel⟩
  have HB := Lib.hid (bt HA.out hbel)
  have hb1 := HB0.out.1.below hbel (Blk.lt HB0.out.1)
  have hb2 := HB0.out.2.below hbel (Blk.lt HB0.out.2)
  obtain ⟨⟨e0, e1, e2, e3, e4⟩, f0, f1, f2, f3, f4⟩ := five hb1
  have g0 : w'.cell? ⟨w.heap.size, 0, none⟩ = some (.int .i64 (N : Nat)) := hb2.cell 0
  have g1 : w'.cell? ⟨w.heap.size, 1, none⟩ = some (.int .i64 t) := hb2.cell 1
  have mS := madeS w'.drew N (by omega)
  have mI := madeI w'.drew N (by omega)
  have mSI := madeI (w'.alloc (.cells (vi z) 46)).drew N (by omega)
  have mIS := madeS (w'.alloc (.cells (vi z) 3)).drew N (by omega)
  rw [← hz] at mS mI mSI mIS
  have hsz : (w'.alloc (.cells (vi z) 46)).drew.heap.size = w'.heap.size + 1 := by simp
  have hsz2 : (w'.alloc (.cells (vi z) 3)).drew.heap.size = w'.heap.size + 1 := by simp
  have mS : _ = Result.ok (Value.slice (some ⟨w'.heap.size, 0, none⟩) N N) (w'.alloc (.cells (vi z) 46)).drew := mS
  have mI : _ = Result.ok (Value.slice (some ⟨w'.heap.size, 0, none⟩) N N) (w'.alloc (.cells (vi z) 3)).drew := mI
  rw [hsz] at mSI
  rw [hsz2] at mIS
  have mSI : _ = Result.ok (Value.slice (some ⟨w'.heap.size + 1, 0, none⟩) N N) ((w'.alloc (.cells (vi z) 46)).alloc (.cells (vi z) 3)).drew := mSI
  have mIS : _ = Result.ok (Value.slice (some ⟨w'.heap.size + 1, 0, none⟩) N N) ((w'.alloc (.cells (vi z) 3)).alloc (.cells (vi z) 46)).drew := mIS
  have hq1 : w.heap.size < w'.heap.size := hb2.lt
  have hq2 : w.heap.size + 1 < w'.heap.size := hb1.lt
  have HQ := Lib.hid (And.intro hzl (And.intro hN (And.intro hb1 hq2)))
  clear hz hzl hN hsz hsz2 hb1 hb2 hgg hbel hg
  go_wp2
  go_region
  all_goals go_wp2
  · refine new_ret ((((Blk.set5 HQ.out.2.2.1 _ _ _ _ _).alloc _).alloc _).drew) _ _ _ _ _ _ _ _ _ _ _ _ _ _ ?_
    have h1 := HQ.out.1
    have h2 := HQ.out.2.1
    refine ⟨⟨_, rfl, _, N, N, _, N, N, rfl, h1, h1, by omega, by omega, ?_, ?_, ?_, ?_⟩, ?_⟩
    · exact vi_rw (two_new (World.size_set5 _ _ _ _ _ _ _) _ _ _ _).1
    · exact vi_rw (two_new (World.size_set5 _ _ _ _ _ _ _) _ _ _ _).2
    · intro p hp; obtain rfl := Option.some.inj hp; have := HQ.out.2.2.2; simp; omega
    · intro p hp; obtain rfl := Option.some.inj hp; have := HQ.out.2.2.2; simp; omega
    · exact bd1 (ba (ba (below5 HB.out (Nat.le_succ _) _ _ _ _ _) _) _)
  · refine new_ret ((((Blk.set5 HQ.out.2.2.1 _ _ _ _ _).alloc _).alloc _).drew) _ _ _ _ _ _ _ _ _ _ _ _ _ _ ?_
    have h1 := HQ.out.1
    have h2 := HQ.out.2.1
    refine ⟨⟨_, rfl, _, N, N, _, N, N, rfl, h1, h1, by omega, by omega, ?_, ?_, ?_, ?_⟩, ?_⟩
    · exact vi_rw (two_new (World.size_set5 _ _ _ _ _ _ _) _ _ _ _).2
    · exact vi_rw (two_new (World.size_set5 _ _ _ _ _ _ _) _ _ _ _).1
    · intro p hp; obtain rfl := Option.some.inj hp; have := HQ.out.2.2.2; simp; omega
    · intro p hp; obtain rfl := Option.some.inj hp; have := HQ.out.2.2.2; simp; omega
    · exact bd1 (ba (ba (below5 HB.out (Nat.le_succ _) _ _ _ _ _) _) _)
end Go.Proofs.YtbbhcmfkkkjehaaGreat.Brd
