/- The statement BoardCrash: for every input the law returns true, and each argument reads as it did: the walk carried into the row. -/
import Derived.Test.YtbbhcmfkkkjehaaGreatRows
import Derived.WalkKit
import Derived.ProofKit
import Derived.OpenShut
import Derived.ShutString
import Derived.ChangeOld
import Derived.Below
import Derived.Test.YtbbhcmfkkkjehaaGreatBoardCrashWalk
import Derived.Test.YtbbhcmfkkkjehaaGreatOpen
import Derived.SizedLaws
namespace Go.Proofs.YtbbhcmfkkkjehaaGreat.boardCrash
open Go.ChangeShapes Go.WideShapes Go.ChangeAt Go.RowKit
open Go.ChangeMaps (open_string shut_string)
open Go.Proofs.YtbbhcmfkkkjehaaGreat.Opn
set_option linter.unusedVariables false

theorem own : ownKnob Tryz.prog.godebug = none := by kernel_rfl
theorem laidOut : laidOutB Tryz.prog = true := by kernel_rfl

set_option maxRecDepth 100000 in
theorem lifted (os : Os) (started : os.Started) (H : Type) (enc : TypeId × Value → H) :
    ReturnsInHanded {} Tryz.checked os 6 .any (Rows.boardCrashSpec.pre6 enc Tryz.prog Tryz.f6 Rows.boardCrashRow.domain false) (Rows.boardCrashSpec.post enc Tryz.prog Tryz.f6 false true false false) := by
  refine returnsInHanded_of_change_sized (C := Tryz.checked) own started (by kernel_rfl) Tryz.func6
    (ChangeSpec.witness6 (enc := enc) (C := Tryz.checked) false ⟨#[], #[.agg #[.int .i64 0, .int .i64 0], .slice none 0 0, .agg #[.int .i64 0, .int .i64 0, .int .i64 0, .bool false, .slice none 0 0]], []⟩ 8 (by kernel_rfl) (by kernel_rfl) (by kernel_rfl) (by kernel_rfl)) ?_
  intro W base args ds gs before hval0 hW hcnd hsz0 _
  have hsz : (DataW.weightsEach Tryz.prog (Tryz.f6.params.toList ++ Rows.boardCrashSpec.plain.varTypes Tryz.prog) (ds ++ gs)).all (· ≤ reachBytes) = true := hsz0
  have hval : ∀ (j : Nat) t v, Tryz.f6.params[j]? = some t → args[j]? = some v → Value.okWide Tryz.prog W .any base t v := hval0
  have hW' := hW
  obtain ⟨p, q, hA0, hV, rfl, hfz, hnd⟩ := hW
  have hA : DataW.TrodAll enc Tryz.prog W 0 (fun _ => true) true Tryz.f6.params.toList args.toList ds p := hA0
  rw [Tryz.params6] at hA hval
  obtain ⟨v0, vs0, d0, ds0, p0, q0, hargs, rfl, rfl, h0, r0⟩ := trodAll_cons hA
  obtain ⟨v1, vs1, d1, ds1, p1, q1, rfl, rfl, rfl, h1, r1⟩ := trodAll_cons r0
  obtain ⟨v2, vs2, d2, ds2, p2, q2, rfl, rfl, rfl, h2, r2⟩ := trodAll_cons r1
  obtain ⟨rfl, rfl, rfl⟩ := trodAll_nil r2
  obtain rfl : args = #[v0, v1, v2] := by cases args; simp_all
  obtain ⟨rfl, rfl⟩ := trodVars_none hV
  obtain ⟨a0, rfl, e0⟩ := okWide_array Tryz.underlying22 (hval 0 22 v0 rfl rfl)
  have k0 := h0
  have lt0 : ∀ x ∈ p0, x.block < W.heap.size := by obtain ⟨m, hm⟩ := k0; exact DataW.trod_lt m _ _ _ hm
  have w0 : Rd W (arr 1 (.int .i64) 2) a0.toList := by
    obtain ⟨fuel, hf⟩ := h0
    have hop : Opens enc Tryz.prog W 22 (arr 1 (.int .i64) 2) := opens_array Tryz.underlying22 (by kernel_rfl) (by kernel_rfl) (opens_int Tryz.underlying3)
    exact hop _ _ _ hf (fits_at hsz (i := 0) rfl rfl)
  obtain ⟨a1, len1, cap1, rfl⟩ := okWide_slice Tryz.underlying23 (hval 1 23 v1 rfl rfl)
  have k1 := h1
  have lt1 : ∀ x ∈ p1, x.block < W.heap.size := by obtain ⟨m, hm⟩ := k1; exact DataW.trod_lt m _ _ _ hm
  have w1 : Rd W (.slice 5 56 (.cons 1 (.int .i64) (.cons 1 (.int .i64) (.cons 1 (.int .i64) (.cons 1 (.bool) (.cons 1 (.slice 1 24 (.slice 1 8 (.int .u64))) (.nil))))))) [.slice a1 len1 cap1] := by
    obtain ⟨fuel, hf⟩ := h1
    have hop : Opens enc Tryz.prog W 23 (.slice 5 56 (.cons 1 (.int .i64) (.cons 1 (.int .i64) (.cons 1 (.int .i64) (.cons 1 (.bool) (.cons 1 (.slice 1 24 (.slice 1 8 (.int .u64))) (.nil))))))) := opens_slice Tryz.underlying23 (by kernel_rfl) (by kernel_rfl) (opens_struct Tryz.underlying30 (by kernel_rfl) (opensFs_cons rfl (by kernel_rfl) (opens_int Tryz.underlying3) (opensFs_cons rfl (by kernel_rfl) (opens_int Tryz.underlying3) (opensFs_cons rfl (by kernel_rfl) (opens_int Tryz.underlying3) (opensFs_cons rfl (by kernel_rfl) (opens_bool Tryz.underlying4) (opensFs_cons rfl (by kernel_rfl) (opens_slice Tryz.underlying28 (by kernel_rfl) (by kernel_rfl) (opens_slice Tryz.underlying174 (by kernel_rfl) (by kernel_rfl) (opens_int Tryz.underlying214))) (opensFs_nil)))))))
    exact hop _ _ _ hf (fits_at hsz (i := 1) rfl rfl)
  obtain ⟨a2, rfl, e2⟩ := okWide_struct Tryz.underlying30 (hval 2 30 v2 rfl rfl)
  have k2 := h2
  have lt2 : ∀ x ∈ p2, x.block < W.heap.size := by obtain ⟨m, hm⟩ := k2; exact DataW.trod_lt m _ _ _ hm
  have w2 : Rd W (.cons 1 (.int .i64) (.cons 1 (.int .i64) (.cons 1 (.int .i64) (.cons 1 (.bool) (.cons 1 (.slice 1 24 (.slice 1 8 (.int .u64))) (.nil)))))) a2.toList := by
    obtain ⟨fuel, hf⟩ := h2
    have hop : Opens enc Tryz.prog W 30 (.cons 1 (.int .i64) (.cons 1 (.int .i64) (.cons 1 (.int .i64) (.cons 1 (.bool) (.cons 1 (.slice 1 24 (.slice 1 8 (.int .u64))) (.nil)))))) := opens_struct Tryz.underlying30 (by kernel_rfl) (opensFs_cons rfl (by kernel_rfl) (opens_int Tryz.underlying3) (opensFs_cons rfl (by kernel_rfl) (opens_int Tryz.underlying3) (opensFs_cons rfl (by kernel_rfl) (opens_int Tryz.underlying3) (opensFs_cons rfl (by kernel_rfl) (opens_bool Tryz.underlying4) (opensFs_cons rfl (by kernel_rfl) (opens_slice Tryz.underlying28 (by kernel_rfl) (by kernel_rfl) (opens_slice Tryz.underlying174 (by kernel_rfl) (by kernel_rfl) (opens_int Tryz.underlying214))) (opensFs_nil))))))
    exact hop _ _ _ hf (fits_at hsz (i := 2) rfl rfl)
  clear hA0 hval0
  refine (Go.Proofs.YtbbhcmfkkkjehaaGreat.BoardCrashW.walk a0 a1 len1 cap1 a2 W w0 w1 w2).mono fun e W' ⟨he, bel⟩ => ?_
  subst he
  exact ⟨_, rfl, _, _, _, [], _, [], hW', trodAll_mk1 (shut_bool Tryz.underlying4 _), (trodAll_cons_mk (Below.trod laidOut (by kernel_rfl) (of_decide_eq_true (by kernel_rfl)) k0 bel lt0) (trodAll_cons_mk (Below.trod laidOut (by kernel_rfl) (of_decide_eq_true (by kernel_rfl)) k1 bel lt1) (trodAll_cons_mk (Below.trod laidOut (by kernel_rfl) (of_decide_eq_true (by kernel_rfl)) k2 bel lt2) trodAll_mk0))), rfl, bel.frame _, fun h => by cases h⟩

theorem over : Rows.boardCrashRow.holds Tryz.pinned (OpenSpec.ofChange Rows.boardCrashSpec) :=
  OpenClaim.holds_of_wide 6 Tryz.f6 rfl rfl rfl rfl rfl rfl rfl ⟨rfl, rfl, rfl, rfl, rfl⟩ rfl rfl rfl rfl rfl (by kernel_rfl) Tryz.func6 (by kernel_rfl)
    (of_decide_eq_true (by kernel_rfl)) (by unfold Func.isWrapper; first | (rw [if_pos (by decide +kernel)]; kernel_rfl) | (rw [if_neg (by decide +kernel)]; exact ⟨rfl, rfl⟩))
    (fun os started H enc _ => lifted os started H enc)

theorem proved : Rows.BoardCrashSaid := over
#print axioms proved
end Go.Proofs.YtbbhcmfkkkjehaaGreat.boardCrash
