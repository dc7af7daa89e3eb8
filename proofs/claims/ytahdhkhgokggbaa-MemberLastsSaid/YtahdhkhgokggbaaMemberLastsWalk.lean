/- MemberLasts: what was flushed is there behind any crash in each sector that wasn't written since; walked. -/
import Derived.Test.YtahdhkhgokggbaaMemberAllWalk
import Derived.Test.YtahdhkhgokggbaaBoolMap
namespace Go.Proofs.Ytahdhkhgokggbaa.MemberLastsW
open Go.RowKit Go.Proofs.Ytahdhkhgokggbaa.Mem Go.Proofs.Ytahdhkhgokggbaa.Sep Go.Proofs.Ytahdhkhgokggbaa.Opn Go.Proofs.Ytahdhkhgokggbaa.Member
open Go.Proofs.YtahdhkhgokggbaaW.PrintWords hiding bt
open Go.Proofs.Ytahdhkhgokggbaa.MemberAllW (Lv insert_erase put_at flush_at crash_at read_at put_las)
open Go.Maps (string_keyed Keyed)
set_option linter.unusedVariables false
set_option linter.unusedSimpArgs false

/-- A map: its block, at most how many entries, what is true in it. -/
abbrev Mp := Nat × Nat × (Lit → Bool)
def pars (M : List Mp) : List Asn := M.map fun x => bmap Try.prog 9 4 x.1 x.2.1 x.2.2
def sL (s : ByteArray) : Lit := .string s.data.toList
theorem sL_inj {s t : ByteArray} (h : sL s = sL t) : s = t := by
  unfold sL at h
  have := Lit.string.inj h
  cases s; cases t
  congr 1
  exact Array.ext' this
/-- What each sector may have is true in its map. -/
structure May (m : Mb) (M : List Mp) (k : Nat) : Prop where
  ml : M.length = 16
  live : m.dead = false
  few : m.q.length ≤ k
  cnt : ∀ x ∈ M, x.2.1 ≤ k + 1
  las : ∀ (i : Nat) s x, m.las[i]? = some s → M[i]? = some x → x.2.2 (sL s) = true
  q : ∀ y ∈ m.q, ∀ x, M[y.1]? = some x → x.2.2 (sL y.2) = true
  lz : ∀ s ∈ m.las, s.size = 64
  qz : ∀ y ∈ m.q, y.2.size = 64
theorem put_sz {m : Mb} (h : ∀ s ∈ m.now, s.size = 64) (i : Int) (t : ByteArray) : ∀ s ∈ (m.put i t).now, s.size = 64 := by
  unfold Mb.put
  split
  · rename_i he
    intro s hs
    rcases List.mem_or_eq_of_mem_set hs with e | e
    · exact h s e
    · subst e
      unfold Mb.putE at he
      split at he
      · rename_i hm; exact absurd he hm
      · split at he
        · cases he
        · rename_i hz; omega
  · exact h
theorem May.no {m : Mb} {M : List Mp} {k : Nat} (h : May m M k) : May m M (k + 1) :=
  ⟨h.ml, h.live, by have := h.few; omega, fun x hx => by have := h.cnt x hx; omega, h.las, h.q, h.lz, h.qz⟩
theorem upd_true {p : Lit → Bool} {l kl : Lit} (h : p l = true) : upd p kl true l = true := by
  by_cases e : l = kl
  · rw [e]; exact upd_same _ _ _
  · rw [upd_other e]; exact h
theorem put_yes (m : Mb) (i : Int) (j : Nat) (hi : i = j) (hj : j < m.now.length) (hd : m.dead = false) (s : ByteArray) (hs : s.size = 64) : m.putE i s = 0 ∧ m.put i s = { m with now := m.now.set j s, q := m.q ++ [(j, s)], w := wrap64 (m.w + 1) } := by
  subst hi
  have h1 : m.may j = 0 := m.may_live j hd hj
  have h2 : m.putE j s = 0 := by unfold Mb.putE; simp [h1, hs]
  refine ⟨h2, ?_⟩
  unfold Mb.put
  rw [if_pos h2]
  rfl
theorem put_no (m : Mb) (i : Int) (hi : ¬ (0 ≤ i ∧ i < 16)) (hn : m.now.length = 16) (hd : m.dead = false) (s : ByteArray) : m.putE i s = 3 ∧ m.put i s = m := by
  have h1 : m.may i = 3 := by unfold Mb.may; rw [hd, hn]; simp; omega
  have h2 : m.putE i s = 3 := by unfold Mb.putE; simp [h1]
  refine ⟨h2, ?_⟩
  unfold Mb.put
  rw [h2]; rfl
theorem May.put {m : Mb} {M : List Mp} {k : Nat} (h : May m M k) (i : Int) (j : Nat) (hi : i = j) (hj : j < m.now.length) (s : ByteArray) (hs : s.size = 64) (x : Mp) (hx : M[j]? = some x) :
    May (m.put i s) (M.set j (x.1, x.2.1 + 1, upd x.2.2 (sL s) true)) (k + 1) := by
  rw [(put_yes m i j hi hj h.live s hs).2]
  have key : ∀ (i : Nat) y t, (M.set j (x.1, x.2.1 + 1, upd x.2.2 (sL s) true))[i]? = some y → (∀ z, M[i]? = some z → z.2.2 t = true) → y.2.2 t = true := fun i y t hy ht => by
    by_cases e : i = j
    · subst e
      rw [List.getElem?_set_self (List.getElem?_eq_some_iff.1 hx).1] at hy
      obtain rfl := Option.some.inj hy
      exact upd_true (ht x hx)
    · rw [List.getElem?_set_ne (Ne.symm e)] at hy; exact ht y hy
  refine ⟨by rw [List.length_set]; exact h.ml, h.live, by have := h.few; simp; omega, fun y hy => ?_, fun i t y ht hy => key i y _ hy (fun z hz => h.las i t z ht hz), fun y hy z hz => ?_, h.lz, fun y hy => ?_⟩
  · rcases List.mem_or_eq_of_mem_set hy with e | e
    · have := h.cnt y e; omega
    · subst e; have := h.cnt x (List.mem_of_getElem? hx); show x.2.1 + 1 ≤ _; omega
  · rcases List.mem_append.1 hy with e | e
    · exact key y.1 z _ hz (fun u hu => h.q y e u hu)
    · obtain rfl : y = (j, s) := by simpa using e
      rw [List.getElem?_set_self (List.getElem?_eq_some_iff.1 hx).1] at hz
      obtain rfl := Option.some.inj hz
      exact upd_same _ _ _
  · rcases List.mem_append.1 hy with e | e
    · exact h.qz y e
    · obtain rfl : y = (j, s) := by simpa using e
      exact hs
theorem lasting_may {P : Nat → ByteArray → Prop} (K : List Nat) : ∀ (q : Wr) (k : Nat) (l : List ByteArray), (∀ (i : Nat) s, l[i]? = some s → P i s) → (∀ y ∈ q, P y.1 y.2) → ∀ (i : Nat) s, (lasting K k q l)[i]? = some s → P i s
  | [], k, l, h, _ => h
  | y :: r, k, l, h, hq => by
    rw [lasting]
    refine lasting_may K r (k + 1) _ ?_ (fun z hz => hq z (List.mem_cons_of_mem _ hz))
    by_cases e : kept K k = true
    · rw [if_pos e]
      intro i s hs
      by_cases ei : y.1 = i
      · subst ei
        have hl := (List.getElem?_eq_some_iff.1 hs).1
        rw [List.length_set] at hl
        rw [List.getElem?_set_self hl] at hs
        rw [← Option.some.inj hs]
        exact hq y (List.mem_cons_self ..)
      · rw [List.getElem?_set_ne ei] at hs; exact h i s hs
    · rw [if_neg e]; exact h
theorem May.crash {m : Mb} {M : List Mp} {k : Nat} (h : May m M k) (K : List Nat) (i : Nat) (s : ByteArray) (x : Mp) (hs : (lasting K 0 m.q m.las)[i]? = some s) (hx : M[i]? = some x) : x.2.2 (sL s) = true :=
  lasting_may (P := fun i s => ∀ x, M[i]? = some x → x.2.2 (sL s) = true) K m.q 0 m.las (fun i s hs x hx => h.las i s x hs hx) (fun y hy x hx => h.q y hy x hx) i s hs x hx
theorem May.crash_sz {m : Mb} {M : List Mp} {k : Nat} (h : May m M k) (K : List Nat) (i : Nat) (s : ByteArray) (hs : (lasting K 0 m.q m.las)[i]? = some s) : s.size = 64 :=
  lasting_may (P := fun i s => s.size = 64) K m.q 0 m.las (fun i s hs => h.lz s (List.mem_of_getElem? hs)) (fun y hy => h.qz y hy) i s hs
theorem lasting_len (K : List Nat) : ∀ (q : Wr) (k : Nat) (l : List ByteArray), (lasting K k q l).length = l.length
  | [], k, l => rfl
  | x :: r, k, l => by rw [lasting, lasting_len K r]; split <;> simp
section
variable {w0 w w' : World} {L A : List Asn} {M : List Mp} {F : Nat}
theorem pars_at {x : Mp} {i : Nat} (hx : M[i]? = some x) : bmap Try.prog 9 4 x.1 x.2.1 x.2.2 ∈ A ++ pars M :=
  List.mem_append_right _ (List.mem_map.2 ⟨x, List.mem_of_getElem? hx, rfl⟩)
theorem pars_set {x : Mp} {i n' : Nat} {p' : Lit → Bool} (h : Sp w0 (A ++ pars M) w) (hx : M[i]? = some x) (h1 : BMap Try.prog 9 4 w' x.1 n' p') (hg : w.grownBy w' (some x.1)) : Sp w0 (A ++ pars (M.set i (x.1, n', p'))) w' := by
  have hi : (A ++ pars M)[A.length + i]? = some (bmap Try.prog 9 4 x.1 x.2.1 x.2.2) := by
    rw [List.getElem?_append_right (by omega), Nat.add_sub_cancel_left]
    unfold pars
    rw [List.getElem?_map, hx]; rfl
  have h2 := ((h.front _ hi).mapSet h1 hg).back (A.length + i)
  rw [insert_erase (List.getElem?_eq_some_iff.1 hi).1, List.set_append_right _ _ (by omega), Nat.add_sub_cancel_left] at h2
  unfold pars at h2 ⊢
  rw [List.map_set]
  exact h2
theorem pars_new {b n : Nat} {p : Lit → Bool} (h : Sp w0 (bmap Try.prog 9 4 b n p :: (A ++ pars M)) w) : Sp w0 (A ++ pars (M ++ [(b, n, p)])) w := by
  have h2 := h.perm (List.perm_append_singleton _ _).symm
  unfold pars at h2 ⊢
  rw [List.map_append, ← List.append_assoc]
  exact h2
theorem w_none {n : Nat} {m : Mb} (h : Sp w0 (member F n m :: L) w) (hq : m.q = []) : Calls Try.prog 29 #[.pointer (some ⟨F, 0, none⟩)] w fun e w' => ∃ a c, e = .returned (.slice a 0 c) ∧ Sp w0 (member F n m :: L) w' := by
  refine (waiting_calls h (by rw [hq]; show 0 < 1000000; omega)).mono ?_
  rintro e w' ⟨v, rfl, h2⟩
  have hr := h2.row (List.mem_cons_self ..)
  rw [hq] at hr
  rcases hr.2 with ⟨rfl, _⟩ | ⟨g, cap, cur, rfl, _⟩
  · exact ⟨none, 0, rfl, h2.tail⟩
  · exact ⟨_, _, rfl, h2.tail⟩
end
theorem made16 (w : World) : ∃ C0 : Array Value, C0.size = 16 ∧ (Instr.makeSlice 54 (.int .i64 16) (.int .i64 16)).run Try.prog w = .ok (.slice (some ⟨w.heap.size, 0, none⟩) 16 16) (w.alloc (.cells C0 34)) := by
  obtain ⟨info, hinfo, hz, hsz, hby⟩ : ∃ i, Try.prog.info? 34 = some i ∧ i.zero = some (.map none) ∧ i.size = 1 ∧ i.bytes = 8 := by
    have h : (Try.prog.info? 34).map (fun i => (i.zero, i.size, i.bytes)) = some (some (.map none), 1, 8) := by kernel_rfl
    cases hq : Try.prog.info? 34 with
    | none => rw [hq] at h; simp at h
    | some i =>
      rw [hq] at h
      simp at h
      exact ⟨i, rfl, h.1, h.2.1, h.2.2⟩
  have h := run_makeSlice (P := Try.prog) w 54 34 info (.map none) (by kernel_rfl) hinfo hz .i64 .i64 16 16 (by omega) (by omega) (by rw [hsz]; omega) (by rw [hby]; omega) (by omega)
  rw [hsz] at h
  exact ⟨_, by rw [size_madeCells]; rfl, h⟩
theorem zeroB (w : World) : (zeroValue 4).run Try.prog w = .ok (.bool false) w := by kernel_rfl
theorem law : Go.Maps.Keyed Try.prog 9 := string_keyed Try.underlying9
theorem key_of {s : ByteArray} (hs : s.size = 64) : keyOf Try.prog 9 (.string s) = some (sL s) :=
  WideMaps.keyOf_string_mk (P := Try.prog) (k := 9) Try.underlying9 (by rw [hs]; unfold maxLen; omega)
/-- An entry of a literal. -/
theorem wpList_insert_bool {P : Program} (w : World) {ops : Array Oper} {rest : List Oper} {o : Oper} {a : Act} {Q : Exit → Act → World → Prop}
    (hg : o.guard = none) (m x v : Operand) (t : TypeId) (hop : o.op = Op.insert t m x v)
    (k e : TypeId) (K : Keyed P k) (ht : P.underlying t = some (.map k e)) (he : P.underlying e = some .bool) (b n : Nat) (p : Lit → Bool)
    (hm : a.eval m = .map (some b)) (hown : BMap P k e w b n p) (hn : n < maxLen) (key : Value) (u : Bool) (kl : Lit) (hx : a.eval x = key) (hv : a.eval v = .bool u) (hkey : keyOf P k key = some kl)
    (hK : ∀ w', BMap P k e w' b (n + 1) (upd p kl u) → w.grownBy w' (some b) → wpList P ops Q rest (a.put o.dst undef) w') :
    wpList P ops Q (o :: rest) a w := by
  refine wpList_plain hg fun K' hK' => ?_
  obtain ⟨w', hrun, r1, r2⟩ := hown.put K ht he hn hkey u
  unfold Oper.wp
  simp [execOp, hop, hm, hx, hv, hrun, Result.andThen]
  exact hK' _ _ (hK w' r1 r2)
/-- 'm[k] = x' as a step of a region that draws. -/
theorem step_mapUpdate_bool {P : Program} {ops : Array Oper} {o : Oper} {a : Act} {w : World} {K : Act → World → Prop} {Q : Exit → Act → World → Prop} {E : Prop}
    (hg : o.guard = none) (m x v : Operand) (t : TypeId) (hop : o.op = Op.mapUpdate t m x v)
    (k e : TypeId) (Ky : Keyed P k) (ht : P.underlying t = some (.map k e)) (he : P.underlying e = some .bool) (b n : Nat) (p : Lit → Bool)
    (hm : a.eval m = .map (some b)) (hown : BMap P k e w b n p) (hn : n < maxLen) (key : Value) (u : Bool) (kl : Lit) (hx : a.eval x = key) (hv : a.eval v = .bool u) (hkey : keyOf P k key = some kl)
    (h : ∀ w', BMap P k e w' b (n + 1) (upd p kl u) → w.grownBy w' (some b) → K (a.put o.dst undef) w') :
    if Region.wanted o (yielded ops a.tmps) = true then Oper.wp P o a w K Q else E := by
  have hw : Region.wanted o (yielded ops a.tmps) = true := by simp [Region.wanted, hg]
  rw [if_pos hw]
  obtain ⟨w', hrun, r1, r2⟩ := hown.put Ky ht he hn hkey u
  unfold Oper.wp
  simp [execOp, hop, hm, hx, hv, hrun, Result.andThen]
  exact h _ r1 r2
theorem row_words {w : World} {a : Option Addr} {len cap : Nat} {zs : List Int} (h : Mem.IsRow .u64 w a len cap zs) : ∃ K : List Nat, K.length = len ∧ K.length ≤ cap ∧ cap ≤ 9223372036854775807 ∧ U64s w a K := by
  rcases h with ⟨rfl, rfl, rfl, rfl⟩ | ⟨x, rfl, h1, h2, h3, h4, h5⟩
  · exact ⟨[], rfl, Nat.le_refl _, by omega, fun i y hy => by simp at hy⟩
  · refine ⟨(zs.take len).map Int.toNat, by simp; omega, by simp; omega, by unfold maxLen at h2; omega, fun i y hy => ?_⟩
    rw [List.getElem?_map, List.getElem?_take] at hy
    split at hy
    · cases hz : zs[i]? with
      | none => rw [hz] at hy; cases hy
      | some z =>
        rw [hz] at hy
        obtain ⟨m, rfl, hm⟩ := wf_u64 (h5 z (List.mem_of_getElem? hz))
        obtain rfl : m = y := by simpa using hy
        have hi := (List.getElem?_eq_some_iff.1 hz).1
        have h6 := h4 i hi
        rw [List.getD_eq_getElem?_getD, hz] at h6
        exact ⟨x, rfl, hm, h6⟩
    · cases hy
/-- The first loop's: writes alone. -/
def Q1 (w0 : World) (F k : Nat) (w : World) : Prop := ∃ m, Sp w0 [member F 16 m] w ∧ Lv m k ∧ ∀ s ∈ m.now, s.size = 64
/-- The second one's: k maps are made. -/
def Q2 (w0 : World) (F bM k : Nat) (m : Mb) (w : World) : Prop := ∃ r M C, Sp w0 ([member F 16 { m with r := r }, blk bM C 34] ++ pars M) w ∧ M.length = k ∧ C.size = 16 ∧
  (∀ (j : Nat) x, M[j]? = some x → C[j]? = some (.map (some x.1)) ∧ x.2.1 ≤ 1 ∧ ∀ s, m.now[j]? = some s → x.2.2 (sL s) = true)
/-- The third one's. -/
def Q3 (w0 : World) (F bM k : Nat) (w : World) : Prop := ∃ m M C, Sp w0 ([member F 16 m, blk bM C 34] ++ pars M) w ∧ May m M k ∧ C.size = 16 ∧ (∀ (j : Nat) x, M[j]? = some x → C[j]? = some (.map (some x.1)))
/-- The last one's. -/
def Q4 (w0 : World) (F bM : Nat) (now : List ByteArray) (w : World) : Prop := ∃ m M C, Sp w0 ([member F 16 m, blk bM C 34] ++ pars M) w ∧ m.now = now ∧ m.dead = false ∧ m.q = [] ∧
  (∀ s ∈ now, s.size = 64) ∧ now.length = 16 ∧ C.size = 16 ∧ (∀ (j : Nat) s, now[j]? = some s → ∃ x, M[j]? = some x ∧ x.2.2 (sL s) = true ∧ C[j]? = some (.map (some x.1)))
set_option maxHeartbeats 16000000 in
set_option maxRecDepth 100000 in
theorem walk (a0 : Option Addr) (len0 cap0 : Nat) (a1 : Option Addr) (len1 cap1 : Nat) (a2 : Option Addr) (len2 cap2 : Nat) (z2 : List Int) (w : World) (f0 : Rd w (.slice 5 48 amSh) [.slice a0 len0 cap0]) (f1 : Rd w (.slice 5 48 amSh) [.slice a1 len1 cap1]) (f2 : Mem.IsRow .u64 w a2 len2 cap2 z2) :
    Calls Try.prog 5 #[.slice a0 len0 cap0, .slice a1 len1 cap1, .slice a2 len2 cap2] w fun e w' => e = .returned (.bool true) ∧ Below w.heap.size w w' := by
  obtain ⟨hlc, hcm, hacts⟩ := rd_acts f0
  obtain ⟨hlc1, hcm1, hacts1⟩ := rd_acts f1
  obtain ⟨K, hKl, hkl, hkc, hK⟩ := row_words f2
  subst hKl
  have HA := Lib.hid hacts
  have HA1 := Lib.hid hacts1
  have HK := Lib.hid hK
  clear f0 f1 f2 hacts hacts1 hK
  go_enter Try.func5, Try.ntmps5
  go_wp2_with fail
  refine (new_calls (Sp.start w) 16).mono ?_
  rintro e w1 ⟨F, rfl, h1⟩
  go_wp2_with fail
  refine (wakes_calls _).mono ?_
  rintro e w2 ⟨rfl, b2⟩
  have h2 : Sp w [member F 16 (Mb.fresh 16)] w2 := h1.step b2
  have HP0 : Hid (Q1 w F 0 w2) := Lib.hid ⟨_, h2, ⟨rfl, Nat.le_refl _⟩, fun s hs => by have := List.eq_of_mem_replicate (show s ∈ List.replicate 16 z64 from hs); rw [this]; exact z64_size⟩
  clear h1 h2 b2
  go_upto_region 4 with fail
  go_cut [26, 27, 28] (fun s34 s35 s36 wx => ∃ n c' : Nat, n ≤ len0 ∧ n ≤ 30 ∧ s34 = .slice a0 n c' ∧ s35 = .int .i64 n ∧ s36 = .int .i64 0 ∧ w2 = wx)
  case first =>
    have hl : (0 : Int) ≤ (len0 : Int) := by omega
    by_cases hm : len0 ≤ 30
    · have e1 : min (len0 : Int) 30 = len0 := by omega
      go_wp2
      go_meet
      case rel => exact ⟨len0, cap0, by omega, by omega, rfl, rfl, rfl, rfl⟩
    · have e1 : min (len0 : Int) 30 = 30 := by omega
      have e2 : (30 : Nat) ≤ cap0 := by omega
      go_wp2
      go_meet
      case rel => exact ⟨30, cap0, by omega, by omega, rfl, rfl, rfl, rfl⟩
  case rest =>
    obtain ⟨n, c', hm1, hm2, rfl, rfl, rfl, rfl⟩ := hcut
    go_wp2
    go_loopw [28] (fun i wr => ∃ k : Nat, k ≤ n ∧ i = .int .i64 k ∧ Hid (Q1 w F k wr)) (fun i _ => n - (intOf i).toNat)
    case atStart => exact ⟨0, Nat.zero_le _, rfl, HP0⟩
    case round =>
      obtain ⟨k, hk, rfl, HP⟩ := hrel
      clear HP0
      by_cases hlt : k < n
      · have dlt : decide ((k : Int) < (n : Int)) = true := decide_eq_true (by omega)
        obtain ⟨x, c, rfl, hok, hcell⟩ := HA.out k (by omega)
        obtain ⟨m, h1, hl, hz⟩ := HP.out
        obtain ⟨e0, e1, e2, e3, e4⟩ := am_cells h1.bel hcell
        obtain ⟨cx, ci, cd, co, ka', kc', K'⟩ := c
        dsimp only at e0 e1 e2 e3 e4
        have HL := Lib.hid (And.intro hl (And.intro hm2 (And.intro hk hz)))
        clear hcell hok hl hz HP
        go_wp2
        have h2 := ((h1.new #[.int .i64 cx, .int .i64 ci, .int .u8 (cd.toNat : Int), .bool co, .slice ka' K'.length kc'] 46).drew)
        have h2 := h2.front 1 rfl
        have h2 : Sp w [member F 16 m, blk wr.heap.size #[.int .i64 cx, .int .i64 ci, .int .u8 (cd.toNat : Int), .bool co, .slice ka' K'.length kc'] 46] _ := h2
        clear e0 e1 e2 e3 e4 h1
        generalize wr.heap.size = q at h2 ⊢
        obtain ⟨s, hs⟩ : ∃ s, s = sect cd false := ⟨_, rfl⟩
        have HS := Lib.hid (fun wx => hs ▸ sector_calls cd false wx)
        clear hs
        have hb := h2.blk (b := q) (C := #[.int .i64 cx, .int .i64 ci, .int .u8 (cd.toNat : Int), .bool co, .slice ka' K'.length kc']) (T := 46) (by simp)
        go_upto_region 7 with fail
        go_region_held3 (fun w' => w'.cell? ⟨q, 1, none⟩ = some (.int .i64 ci) ∧ w'.cell? ⟨q, 2, none⟩ = some (.int .u8 (cd.toNat : Int)))
          (first | assumption | exact ⟨Blk.cell hb 1, Blk.cell hb 2⟩)
          (first
            | (go_at_call 25; refine (HS.out _).mono ?_; rintro e w2 ⟨rfl, b2⟩; have h2 := h2.step b2; have hb := h2.blk (b := q) (C := #[.int .i64 cx, .int .i64 ci, .int .u8 (cd.toNat : Int), .bool co, .slice ka' K'.length kc']) (T := 46) (by simp))
            | (go_at_call 24; refine (put_at h2 0 rfl k (by have := HL.out; omega) HL.out.1 ci s).mono ?_; rintro e w2 ⟨rfl, h2⟩; have hb := h2.blk (b := q) (C := #[.int .i64 cx, .int .i64 ci, .int .u8 (cd.toNat : Int), .bool co, .slice ka' K'.length kc']) (T := 46) (by simp)))
        all_goals (
          have HQ2 : Hid (Q1 w F (k + 1) _) := Lib.hid ⟨_, (h2.front 1 rfl).tail, HL.out.1.put _ _, put_sz HL.out.2.2.2 _ _⟩
          clear h2 hb
          go_wp2
          go_roundw)
        case measure => simp [intOf]; omega
        case rel => exact ⟨k + 1, by omega, by go_num, HQ2⟩
      · obtain rfl : k = n := by omega
        have dlt : decide ((k : Int) < (k : Int)) = false := decide_eq_false (by omega)
        obtain ⟨m, h1, hl, hz⟩ := HP.out
        have hd := hl.live
        have HZ := Lib.hid hz
        have hok := mbOk h1
        have HMN := Lib.hid hok
        have hfl := flush_yes h1 hd _ rfl
        have HFL := Lib.hid hfl
        clear hl HP HA hok h1 hfl hz
        go_wp2_with fail
        refine HFL.out.mono ?_
        rintro e w3 ⟨rfl, h2⟩
        obtain ⟨m', hm'⟩ : ∃ m' : Mb, m' = { m with las := m.now, q := [], f := wrap64 (m.f + 1) } := ⟨_, rfl⟩
        have h2 : Sp w [member F 16 { m with las := m.now, q := [], f := wrap64 (m.f + 1) }] w3 := h2
        rw [← hm'] at h2
        have HM : Hid (m'.las = m'.now ∧ m'.q = [] ∧ m'.dead = false ∧ m'.now.length = 16 ∧ ∀ s ∈ m'.now, s.size = 64) := Lib.hid (by rw [hm']; exact ⟨rfl, rfl, hd, HMN.out.now, HZ.out⟩)
        obtain ⟨C0, hC0, hmk⟩ := made16 w3
        have h3 := (h2.new C0 34).front 1 rfl
        have h3 : Sp w ([member F 16 { m' with r := m'.r }, blk w3.heap.size C0 34] ++ pars []) _ := h3
        generalize w3.heap.size = bM at hmk h3
        have HQ0 : Hid (Q2 w F bM 0 m' _) := Lib.hid ⟨_, _, _, h3, rfl, hC0, fun j x hx => by simp at hx⟩
        clear h2 h3 hC0 hm' hd HFL HMN
        go_wp2
        clear hmk
        go_loopw [46] (fun i wr => ∃ k : Nat, k ≤ 16 ∧ i = .int .i64 k ∧ Hid (Q2 w F bM k m' wr)) (fun i _ => 16 - (intOf i).toNat)
        case atStart => exact ⟨0, Nat.zero_le _, rfl, HQ0⟩
        case round =>
          obtain ⟨j, hj, rfl, HQ⟩ := hrel
          clear HQ0
          by_cases hlt : j < 16
          · have dlt2 : decide ((j : Int) < 16) = true := decide_eq_true (by omega)
            have ilt2 : (j : Int) < 16 := by omega
            obtain ⟨r, M, C, h4, hML, hCs, hM⟩ := HQ.out
            obtain ⟨u, hu⟩ : ∃ u, m'.now[j]? = some u := ⟨_, List.getElem?_eq_getElem (by rw [HM.out.2.2.2.1]; exact hlt)⟩
            have HRD := Lib.hid (read_at h4 0 rfl HM.out.2.2.1 j u hu)
            have HU := Lib.hid (And.intro hu (And.intro hML (And.intro hCs hM)))
            clear hu h4 hML hCs hM HQ
            go_wp2_with fail
            refine HRD.out.mono ?_
            rintro e w5 ⟨rfl, h5⟩
            have h5 : Sp w ([member F 16 { m' with r := wrap64 (r + 1) }, blk bM C 34] ++ pars M) w5 := h5
            have h6 := h5.newMap Try.prog 9 4
            have hmm := @run_makeMap Try.prog 34 w5
            generalize w5.heap.size = mb at hmm h6
            have HKEY := Lib.hid (key_of (HM.out.2.2.2.2 u (List.mem_of_getElem? HU.out.1)))
            clear h5 HRD
            go_wp2_with (refine wpList_insert_bool _ rfl _ _ _ 34 rfl 9 4 law Try.underlying34 Try.underlying4 mb 0 _ rfl (h6.bmap (List.mem_cons_self ..)) (by unfold maxLen; omega) _ true (sL u) rfl rfl HKEY.out ?_)
            intro w6 hown6 hgrow6
            have h7 := pars_new (h6.mapSet hown6 hgrow6)
            have h7 : Sp w ([member F 16 { m' with r := wrap64 (r + 1) }, blk bM C 34] ++ pars (M ++ [(mb, 1, upd (fun _ => false) (sL u) true)])) w6 := h7
            have hb := h7.blk (b := bM) (C := C) (T := 34) (by simp)
            obtain ⟨y, hy⟩ : ∃ y, C[j]? = some y := ⟨_, Array.getElem?_eq_getElem (by have := HU.out.2.2.1; omega)⟩
            have hc := hb.cell j
            rw [hy] at hc
            have hf := hb.frozen j
            have h8 := h7.setAt 1 rfl j (.map (some mb))
            have h8 : Sp w ([member F 16 { m' with r := wrap64 (r + 1) }, blk bM (C.setIfInBounds j (.map (some mb))) 34] ++ pars (M ++ [(mb, 1, upd (fun _ => false) (sL u) true)])) _ := h8
            have HQ2 : Hid (Q2 w F bM (j + 1) m' _) := Lib.hid ⟨_, _, _, h8, by rw [List.length_append, HU.out.2.1]; rfl, by rw [Array.size_setIfInBounds]; exact HU.out.2.2.1, fun i x hx => by
              have hlen := HU.out.2.1
              by_cases e : i = j
              · subst e
                rw [List.getElem?_append_right (by omega), hlen, Nat.sub_self] at hx
                obtain rfl : (mb, 1, upd (fun _ => false) (sL u) true) = x := by simpa using hx
                refine ⟨by rw [Array.getElem?_setIfInBounds_self_of_lt (by have := HU.out.2.2.1; omega)], Nat.le_refl _, fun s hs => ?_⟩
                rw [HU.out.1] at hs
                rw [← Option.some.inj hs]
                exact upd_same (fun _ => false) (sL u) true
              · have hl := (List.getElem?_eq_some_iff.1 hx).1
                rw [List.length_append] at hl
                simp at hl
                rw [List.getElem?_append_left (by omega)] at hx
                rw [Array.getElem?_setIfInBounds_ne (Ne.symm e)]
                exact HU.out.2.2.2 i x hx⟩
            clear hy hb h6 h7 h8 hown6 hgrow6 hmm HKEY
            go_wp2
            go_roundw
            case measure => simp [intOf]; omega
            case rel => exact ⟨j + 1, by omega, by go_num, HQ2⟩
          · obtain rfl : j = 16 := by omega
            have dlt2 : decide (((16 : Nat) : Int) < 16) = false := by decide
            obtain ⟨r, M, C, h4, hML, hCs, hM⟩ := HQ.out
            have HQ3 : Hid (Q3 w F bM 0 _) := Lib.hid ⟨_, M, C, h4, ⟨hML, HM.out.2.2.1, by show m'.q.length ≤ 0; rw [HM.out.2.1]; exact Nat.le_refl _, fun x hx => by obtain ⟨i, hi⟩ := List.getElem?_of_mem hx; exact (hM i x hi).2.1, fun i s x hs hx => (hM i x hx).2.2 s (by rw [← HM.out.1]; exact hs), fun y hy => absurd (show y ∈ m'.q from hy) (by rw [HM.out.2.1]; simp), fun s hs => HM.out.2.2.2.2 s (by rw [← HM.out.1]; exact hs), fun y hy => absurd (show y ∈ m'.q from hy) (by rw [HM.out.2.1]; simp)⟩, hCs, fun j x hx => (hM j x hx).1⟩
            clear h4 hML hCs hM HQ HM
            go_upto_region 18 with fail
            go_cut [66, 67, 68] (fun s34 s35 s36 wx => ∃ n c' : Nat, n ≤ len1 ∧ n ≤ 100 ∧ s34 = .slice a1 n c' ∧ s35 = .int .i64 n ∧ s36 = .int .i64 0 ∧ Hid (Q3 w F bM 0 wx))
            case first =>
              have hl : (0 : Int) ≤ (len1 : Int) := by omega
              by_cases hm : len1 ≤ 100
              · have e1 : min (len1 : Int) 100 = len1 := by omega
                go_wp2
                go_meet
                case rel => exact ⟨len1, cap1, by omega, by omega, rfl, rfl, rfl, HQ3⟩
              · have e1 : min (len1 : Int) 100 = 100 := by omega
                have e2 : (100 : Nat) ≤ cap1 := by omega
                go_wp2
                go_meet
                case rel => exact ⟨100, cap1, by omega, by omega, rfl, rfl, rfl, HQ3⟩
            case rest =>
            obtain ⟨n2, c2, hn1, hn2, rfl, rfl, rfl, HQ1⟩ := hcut
            clear HQ3
            go_wp2
            go_loopw [68] (fun i wr => ∃ k : Nat, k ≤ n2 ∧ i = .int .i64 k ∧ Hid (Q3 w F bM k wr)) (fun i _ => n2 - (intOf i).toNat)
            case atStart => exact ⟨0, Nat.zero_le _, rfl, HQ1⟩
            case round =>
              obtain ⟨k, hk, rfl, HQ⟩ := hrel
              clear HQ1
              by_cases hlt : k < n2
              · have dlt : decide ((k : Int) < (n2 : Int)) = true := decide_eq_true (by omega)
                obtain ⟨x, c, rfl, hok, hcell⟩ := HA1.out k (by omega)
                obtain ⟨m, M, C, h1, hMay, hCs, hC⟩ := HQ.out
                obtain ⟨e0, e1, e2, e3, e4⟩ := am_cells h1.bel hcell
                obtain ⟨cx, ci, cd, co, ka', kc', K'⟩ := c
                dsimp only at e0 e1 e2 e3 e4
                have ho := mbOk h1
                have HL := Lib.hid (And.intro hMay (And.intro hCs (And.intro hC (And.intro ho (And.intro hn2 hk)))))
                clear hcell hok hMay hCs hC ho HQ
                go_wp2
                have h2 := ((h1.new #[.int .i64 cx, .int .i64 ci, .int .u8 (cd.toNat : Int), .bool co, .slice ka' K'.length kc'] 46).drew)
                have h2 := h2.front 1 rfl
                have h2 : Sp w ([member F 16 m, blk wr.heap.size #[.int .i64 cx, .int .i64 ci, .int .u8 (cd.toNat : Int), .bool co, .slice ka' K'.length kc'] 46, blk bM C 34] ++ pars M) _ := h2
                clear e0 e1 e2 e3 e4 h1
                generalize wr.heap.size = q at h2 ⊢
                obtain ⟨s, hs⟩ : ∃ s, s = sect cd false := ⟨_, rfl⟩
                have HS := Lib.hid (fun wx => hs ▸ sector_calls cd false wx)
                have HZ : Hid (s.size = 64) := Lib.hid (by rw [hs, sect_size]; rfl)
                clear hs
                have hb := h2.blk (b := q) (C := #[.int .i64 cx, .int .i64 ci, .int .u8 (cd.toNat : Int), .bool co, .slice ka' K'.length kc']) (T := 46) (by simp)
                by_cases hin : 0 ≤ ci ∧ ci < 16
                · obtain ⟨j, rfl⟩ : ∃ j : Nat, ci = j := ⟨ci.toNat, by omega⟩
                  have hj16 : j < 16 := by omega
                  have hjl : (j : Int) < 16 := by omega
                  have hj0 : (0 : Int) ≤ (j : Int) := by omega
                  have dj0 : decide ((0 : Int) ≤ (j : Int)) = true := decide_eq_true hj0
                  have dj1 : decide ((j : Int) < 16) = true := decide_eq_true hjl
                  have HPE := Lib.hid (put_yes m (j : Nat) j rfl (by rw [HL.out.2.2.2.1.now]; exact hj16) HL.out.1.live s HZ.out).1
                  obtain ⟨m', hm'⟩ : ∃ m', m' = m.put (j : Nat) s := ⟨_, rfl⟩
                  have HM := Lib.hid hm'
                  clear hm' hin
                  go_upto_region 21 with fail
                  go_cut [89] (fun s89 wx => s89 = .bool true ∧ Sp w ([member F 16 m', blk q #[.int .i64 cx, .int .i64 (j : Nat), .int .u8 (cd.toNat : Int), .bool co, .slice ka' K'.length kc'] 46, blk bM C 34] ++ pars M) wx)
                  case first =>
                    go_region_held3 (fun w' => w'.cell? ⟨q, 1, none⟩ = some (.int .i64 (j : Nat)) ∧ w'.cell? ⟨q, 2, none⟩ = some (.int .u8 (cd.toNat : Int)))
                      (first | assumption | exact ⟨Blk.cell hb 1, Blk.cell hb 2⟩)
                      (first
                        | (go_at_call 25; refine (HS.out _).mono ?_; rintro e w2 ⟨rfl, b2⟩; have h2 := h2.step b2; have hb := h2.blk (b := q) (C := #[.int .i64 cx, .int .i64 (j : Nat), .int .u8 (cd.toNat : Int), .bool co, .slice ka' K'.length kc']) (T := 46) (by simp))
                        | (go_at_call 24; refine (put_at h2 0 rfl k (by have := HL.out; omega) ⟨HL.out.1.live, HL.out.1.few⟩ (j : Nat) s).mono ?_; rintro e w2 ⟨he, h2⟩; rw [HPE.out] at he; subst he; rw [← HM.out] at h2; have hb := h2.blk (b := q) (C := #[.int .i64 cx, .int .i64 (j : Nat), .int .u8 (cd.toNat : Int), .bool co, .slice ka' K'.length kc']) (T := 46) (by simp)))
                    all_goals go_wp2
                    all_goals go_meet
                    all_goals exact ⟨rfl, h2⟩
                  case rest =>
                  obtain ⟨rfl, h3⟩ := hcut
                  have h4 := h3.drew
                  clear h2 hb h3
                  have hb := h4.blk (b := q) (C := #[.int .i64 cx, .int .i64 (j : Nat), .int .u8 (cd.toNat : Int), .bool co, .slice ka' K'.length kc']) (T := 46) (by simp)
                  obtain ⟨x, hx⟩ : ∃ x, M[j]? = some x := ⟨_, List.getElem?_eq_getElem (by rw [HL.out.1.ml]; exact hj16)⟩
                  obtain ⟨mb, nb, p⟩ := x
                  have hbm := h4.blk (b := bM) (C := C) (T := 34) (by simp)
                  have HCJ := Lib.hid (And.intro (HL.out.2.2.1 j _ hx) (HL.out.1.cnt _ (List.mem_of_getElem? hx)))
                  have HX := Lib.hid hx
                  have HKEY := Lib.hid (key_of HZ.out)
                  have hown := h4.bmap (pars_at (A := [member F 16 m', blk q #[.int .i64 cx, .int .i64 (j : Nat), .int .u8 (cd.toNat : Int), .bool co, .slice ka' K'.length kc'] 46, blk bM C 34]) hx)
                  have hown : BMap Try.prog 9 4 _ mb nb p := hown
                  clear hx
                  go_upto_region 22 with fail
                  go_region_held3 (fun w' => w'.cell? ⟨q, 1, none⟩ = some (.int .i64 (j : Nat)) ∧ w'.cell? ⟨q, 2, none⟩ = some (.int .u8 (cd.toNat : Int)) ∧ w'.cell? ⟨bM, j, none⟩ = some (.map (some mb)))
                    (first | assumption | exact ⟨Blk.cell hb5 1, Blk.cell hb5 2, by rw [Blk.cell hbm5 j]; exact HCJ.out.1⟩ | exact ⟨Blk.cell hb 1, Blk.cell hb 2, by rw [Blk.cell hbm j]; exact HCJ.out.1⟩)
                    (first
                      | (go_at_call 25; refine (HS.out _).mono ?_; rintro e w2 ⟨rfl, b2⟩; have h4 := h4.step b2; have hb := h4.blk (b := q) (C := #[.int .i64 cx, .int .i64 (j : Nat), .int .u8 (cd.toNat : Int), .bool co, .slice ka' K'.length kc']) (T := 46) (by simp); have hbm := h4.blk (b := bM) (C := C) (T := 34) (by simp); have hown : BMap Try.prog 9 4 _ mb nb p := h4.bmap (pars_at (A := [member F 16 m', blk q #[.int .i64 cx, .int .i64 (j : Nat), .int .u8 (cd.toNat : Int), .bool co, .slice ka' K'.length kc'] 46, blk bM C 34]) HX.out); have hnb : nb ≤ k + 1 := HCJ.out.2; have hk1 := HL.out.2.2.2.2; obtain ⟨w5, hrun5, hown5, hgrow5⟩ := hown.put (t := 34) law Try.underlying34 Try.underlying4 (by unfold maxLen; omega) HKEY.out true; clear hnb hk1; have h5 := pars_set (A := [member F 16 m', blk q #[.int .i64 cx, .int .i64 (j : Nat), .int .u8 (cd.toNat : Int), .bool co, .slice ka' K'.length kc'] 46, blk bM C 34]) h4 HX.out hown5 hgrow5; have hb5 := h5.blk (b := q) (C := #[.int .i64 cx, .int .i64 (j : Nat), .int .u8 (cd.toNat : Int), .bool co, .slice ka' K'.length kc']) (T := 46) (by simp); have hbm5 := h5.blk (b := bM) (C := C) (T := 34) (by simp)))
                  all_goals (
                    have HQ4 : Hid (Q3 w F bM (k + 1) _) := Lib.hid ⟨m', _, C, (h5.front 1 rfl).tail, by rw [HM.out]; exact HL.out.1.put (j : Nat) j rfl (by rw [HL.out.2.2.2.1.now]; exact hj16) s HZ.out _ HX.out, HL.out.2.1, fun i y hy => by
                      by_cases e : i = j
                      · subst e
                        rw [List.getElem?_set_self (List.getElem?_eq_some_iff.1 HX.out).1] at hy
                        rw [← Option.some.inj hy]; exact HCJ.out.1
                      · rw [List.getElem?_set_ne (Ne.symm e)] at hy; exact HL.out.2.2.1 i y hy⟩
                    clear h4 h5 hb hbm hb5 hbm5 hown5 hgrow5 hrun5 hown
                    go_wp2
                    go_roundw)
                  case measure => simp [intOf]; omega
                  case rel =>
                    repeat apply Exists.intro
                    refine ⟨?_, rfl⟩
                    exact ⟨k + 1, by omega, by go_num, HQ4⟩
                · have HPE := Lib.hid (put_no m ci hin HL.out.2.2.2.1.now HL.out.1.live s)
                  clear hin
                  go_upto_region 21 with fail
                  go_cut [89] (fun s89 wx => s89 = .bool false ∧ Sp w ([member F 16 m, blk q #[.int .i64 cx, .int .i64 ci, .int .u8 (cd.toNat : Int), .bool co, .slice ka' K'.length kc'] 46, blk bM C 34] ++ pars M) wx)
                  case first =>
                    have c1 := Blk.cell hb 1
                    have c2 := Blk.cell hb 2
                    first
                      | (go_region_with (first
                          | (go_at_call 25; refine (HS.out _).mono ?_; rintro e w2 ⟨rfl, b2⟩; have h2 := h2.step b2; have hb := h2.blk (b := q) (C := #[.int .i64 cx, .int .i64 ci, .int .u8 (cd.toNat : Int), .bool co, .slice ka' K'.length kc']) (T := 46) (by simp); have c1 := Blk.cell hb 1; have c2 := Blk.cell hb 2)
                          | (go_at_call 24; refine (put_at h2 0 rfl k (by have := HL.out; omega) ⟨HL.out.1.live, HL.out.1.few⟩ ci s).mono ?_; rintro e w2 ⟨he, h2⟩; rw [HPE.out.1] at he; subst he; rw [HPE.out.2] at h2)))
                      | fail "with"
                    all_goals go_wp2
                    all_goals go_meet
                    all_goals exact ⟨rfl, h2⟩
                  case rest =>
                  obtain ⟨rfl, h3⟩ := hcut
                  have HQ4 : Hid (Q3 w F bM (k + 1) _) := Lib.hid ⟨m, _, C, (h3.front 1 rfl).tail, HL.out.1.no, HL.out.2.1, HL.out.2.2.1⟩
                  clear h2 hb h3
                  go_wp2
                  go_roundw
                  case measure => simp [intOf]; omega
                  case rel => exact ⟨k + 1, by omega, by go_num, HQ4⟩
              · obtain rfl : k = n2 := by omega
                have dlt : decide ((k : Int) < (k : Int)) = false := decide_eq_false (by omega)
                obtain ⟨m, M, C, h1, hMay, hCs, hC⟩ := HQ.out
                obtain ⟨K4, hK4⟩ : ∃ K4, K4 = K.take 4 := ⟨_, rfl⟩
                have hlen4 : K4.length = min 4 K.length := by rw [hK4, List.length_take]
                have e1 : min (K.length : Int) 4 = (K4.length : Nat) := by omega
                have e2 : K4.length ≤ cap2 := by omega
                have HK4 : Hid (U64s w a2 K4) := Lib.hid (fun i x hx => HK.out i x (by rw [hK4, List.getElem?_take] at hx; split at hx; exact hx; cases hx))
                have ho := mbOk h1
                have hcr := crash_at h1 0 rfl hMay.live (by have := hMay.few; omega) a2 cap2 K4 (by omega) (fun L' w' hs i x hx => by
                  obtain ⟨p, hp, q1, q2⟩ := HK4.out i x hx
                  exact ⟨p, hp, q1, by rw [hs.bel.cell (World.block_lt_of_cell? w _ q2)]; exact q2⟩)
                have HCR := Lib.hid hcr
                have HL := Lib.hid (And.intro hMay (And.intro hCs (And.intro hC ho)))
                clear hcr hMay hCs hC ho h1 HQ HA1 hK4 hlen4 HK
                go_wp2_with fail
                refine HCR.out.mono ?_
                rintro e w6 ⟨rfl, h4⟩
                obtain ⟨now, hnow⟩ : ∃ now, now = lasting K4 0 m.q m.las := ⟨_, rfl⟩
                rw [← hnow] at h4
                have HQ0 : Hid (Q4 w F bM now w6) := Lib.hid ⟨_, M, C, h4, rfl, HL.out.1.live, rfl, fun s hs => by obtain ⟨i, hi⟩ := List.getElem?_of_mem hs; exact HL.out.1.crash_sz K4 i s (by rw [← hnow]; exact hi), by rw [hnow, lasting_len, HL.out.2.2.2.las], HL.out.2.1, fun j s hs => by
                  have hj := (List.getElem?_eq_some_iff.1 hs).1
                  rw [hnow, lasting_len, HL.out.2.2.2.las] at hj
                  obtain ⟨x, hx⟩ : ∃ x, M[j]? = some x := ⟨_, List.getElem?_eq_getElem (by rw [HL.out.1.ml]; exact hj)⟩
                  exact ⟨x, hx, HL.out.1.crash K4 j s x (by rw [← hnow]; exact hs) hx, HL.out.2.2.1 j x hx⟩⟩
                clear h4 hnow HCR HK4 HL e1 e2
                go_wp2
                go_loopw [108] (fun i wr => ∃ k : Nat, k ≤ 16 ∧ i = .int .i64 k ∧ Hid (Q4 w F bM now wr)) (fun i _ => 16 - (intOf i).toNat)
                case atStart => exact ⟨0, Nat.zero_le _, rfl, HQ0⟩
                case round =>
                  obtain ⟨j, hj, rfl, HQ⟩ := hrel
                  clear HQ0
                  obtain ⟨m2, M2, C2, h5, hnw, hdd, hqq, hsz, hnl, hCz, hall⟩ := HQ.out
                  by_cases hlt : j < 16
                  · have dlt2 : decide ((j : Int) < 16) = true := decide_eq_true (by omega)
                    have ilt2 : (j : Int) < 16 := by omega
                    obtain ⟨u, hu⟩ : ∃ u, now[j]? = some u := ⟨_, List.getElem?_eq_getElem (by rw [hnl]; exact hlt)⟩
                    have HRD := Lib.hid (read_at h5 0 rfl hdd j u (by rw [hnw]; exact hu))
                    obtain ⟨⟨mb, nb, p⟩, hx, hpu, hcx⟩ := hall j u hu
                    have HU := Lib.hid (And.intro hnw (And.intro hdd (And.intro hqq (And.intro hsz (And.intro hnl (And.intro hCz hall))))))
                    have HX := Lib.hid (And.intro hx (And.intro hpu hcx))
                    have HKEY := Lib.hid (key_of (hsz u (List.mem_of_getElem? hu)))
                    clear hu hx hpu hcx hnw hdd hqq hsz hnl hCz hall h5 HQ
                    go_wp2_with fail
                    refine HRD.out.mono ?_
                    rintro e w7 ⟨rfl, h6⟩
                    have h6 : Sp w ([member F 16 { m2 with r := wrap64 (m2.r + 1) }, blk bM C2 34] ++ pars M2) w7 := h6
                    have hown : BMap Try.prog 9 4 w7 mb nb p := h6.bmap (pars_at (A := [member F 16 { m2 with r := wrap64 (m2.r + 1) }, blk bM C2 34]) HX.out.1)
                    have hlook := hown.look law Try.underlying34 Try.underlying4 (zeroB _) HKEY.out
                    rw [HX.out.2.1] at hlook
                    have hbm := h6.blk (b := bM) (C := C2) (T := 34) (by simp)
                    have hc := hbm.cell j
                    rw [HX.out.2.2] at hc
                    have HQ2 : Hid (Q4 w F bM now w7) := Lib.hid ⟨_, M2, C2, h6, HU.out⟩
                    clear h6 hown hbm HKEY HX HU HRD
                    go_wp2
                    go_roundw
                    case measure => simp [intOf]; omega
                    case rel => exact ⟨j + 1, by omega, by go_num, HQ2⟩
                  · obtain rfl : j = 16 := by omega
                    have dlt2 : decide (((16 : Nat) : Int) < 16) = false := by decide
                    have HW := Lib.hid (w_none h5 hqq)
                    clear h5 hnw hdd hqq hsz hnl hCz hall HQ
                    go_wp2_with fail
                    refine HW.out.mono ?_
                    rintro e w7 ⟨a, c, rfl, h6⟩
                    have HB := Lib.hid h6.bel
                    clear h6
                    go_wp2
                    go_ret
                    exact ⟨rfl, HB.out⟩
end Go.Proofs.Ytahdhkhgokggbaa.MemberLastsW
