/- label.Get, walked: what is no sector, and a sector whose sum is another one. -/
import Derived.Test.YtmpbohbecidkhaaLabNew
import Derived.Deep.RegionHeld3
namespace Go.Proofs.Ytmpbohbecidkhaa.Lab
open Go.RowKit Go.Proofs.Ytmpbohbecidkhaa.Mem Go.Proofs.Ytmpbohbecidkhaa.Sep Go.Proofs.Ytmpbohbecidkhaa.Num Go.Proofs.Ytmpbohbecidkhaa.B8 Go.Proofs.Ytmpbohbecidkhaa.CrcS Go.Proofs.Ytmpbohbecidkhaa.Bld
open Go.Proofs.YtmpbohbecidkhaaW.PrintWords hiding bt
set_option linter.unusedVariables false
set_option linter.unusedSimpArgs false

theorem isPrefix_take : ∀ (p l : List UInt8), p.isPrefixOf l = decide (l.take p.length = p)
  | [], l => by simp
  | b :: p, [] => by simp
  | b :: p, a :: l => by
    rw [List.isPrefixOf_cons_cons, isPrefix_take p l]
    by_cases e : b = a
    · subst e; simp
    · have e2 : ¬ a = b := fun h => e h.symm
      simp [e, e2]
theorem magic_map : magic.map UInt8.ofNat = [84, 82, 85, 78] := by unfold magic; rfl
theorem hasPrefix_magic (s : ByteArray) : Lib.hasPrefix s.data.toList (⟨#[84, 82, 85, 78]⟩ : ByteArray).data.toList = decide ((by8 s).take 4 = magic) := by
  unfold Lib.hasPrefix
  rw [isPrefix_take]
  rw [decide_eq_decide]
  show s.data.toList.take 4 = [84, 82, 85, 78] ↔ _
  unfold by8
  rw [← List.map_take]
  constructor
  · intro h; rw [h]; rfl
  · intro h
    have := congrArg (List.map UInt8.ofNat) h
    rw [List.map_map, magic_map, show (UInt8.ofNat ∘ UInt8.toNat) = id from funext fun x => by simp, List.map_id] at this
    exact this
theorem get_ret {W : World} {b : Nat} {v0 v1 v2 v3 v4 e : Value} {T : TypeId} (hb : Blk W b #[v0, v1, v2, v3, v4] T) {Q : Ending → World → Prop} (x0 x1 : Value) (r : List Value) (h : Q (.returned (.tuple #[.agg #[v0, v1, v2, v3, v4], e])) W) :
    bodyPost Try.prog Try.f23 Q Exit.ret { tmps := (x0 :: x1 :: .pointer (some ⟨b, 0, none⟩) :: e :: r).toArray, defers := [] } W := by
  obtain ⟨⟨c0, c1, c2, c3, c4⟩, _⟩ := five hb
  exact bodyPost_ret (v := .tuple #[.agg #[v0, v1, v2, v3, v4], e]) (by simp [results, Try.results23, go_sem, *]) rfl h
def zlab : Value := .agg #[.int .i64 0, .int .i64 0, .int .i64 0, .slice none 0 0, .slice none 0 0]
theorem got_zero (w : World) : Got w zlab Lb.zero := ⟨none, 0, 0, none, 0, 0, rfl, rfl, rfl, by decide, by decide, Rw.nil _ _, Rw.nil _ _⟩
set_option maxHeartbeats 8000000 in
set_option maxRecDepth 100000 in
/-- No sector of a label's: another length, or other letters at its head. -/
theorem get_head (s : ByteArray) (hs : s.size ≤ 9223372036854775807) (h : s.size ≠ 64 ∨ (by8 s).take 4 ≠ magic) (w : World) :
    Calls Try.prog 23 #[.string s] w fun e w' => e = .returned (.tuple #[zlab, .int .i64 4]) ∧ Below w.heap.size w w' := by
  have hb0 := Blk.new w #[.int .i64 0, .int .i64 0, .int .i64 0, .slice none 0 0, .slice none 0 0] 29
  obtain ⟨⟨e0, e1, e2, e3, e4⟩, f0, f1, f2, f3, f4⟩ := five hb0
  have HB := Lib.hid hb0
  have HP := Lib.hid (Try.strings_HasPrefix s ⟨#[84, 82, 85, 78]⟩)
  by_cases h6 : s.size = 64
  · have hm : decide ((by8 s).take 4 = magic) = false := decide_eq_false (fun e => h.elim (fun k => k h6) (fun k => k e))
    rw [hasPrefix_magic, hm] at HP
    have z1 : ((s.size : Int) == 64) = true := beq_iff_eq.2 (by omega)
    have z2 : ((s.size : Int) != 64) = false := by rw [bne, z1]; rfl
    clear hb0 h h6 hm
    go_enter Try.func23, Try.ntmps23
    go_wp2_with fail
    refine (HP.out _).mono ?_
    rintro e w' ⟨rfl, rfl⟩
    go_wp2
    refine get_ret HB.out _ _ _ ⟨rfl, ?_⟩
    exact ba (br w) _
  · have z1 : ((s.size : Int) == 64) = false := beq_eq_false_iff_ne.2 (by omega)
    have z2 : ((s.size : Int) != 64) = true := by rw [bne, z1]; rfl
    clear hb0 h h6
    go_enter Try.func23, Try.ntmps23
    go_wp2
    refine get_ret HB.out _ _ _ ⟨rfl, ?_⟩
    exact ba (br w) _
end Go.Proofs.Ytmpbohbecidkhaa.Lab
