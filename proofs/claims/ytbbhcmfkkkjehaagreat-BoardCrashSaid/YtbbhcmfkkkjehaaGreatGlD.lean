/- A region that draws its order and holds two appends, each stored where its slice was read: whatever the order, both are done. No program is named here. -/
import Derived.Test.YtbbhcmfkkkjehaaGreatGlC
import Derived.OrdersHeld
import Derived.Deep.RegionHeld3
import Derived.Lib.SlBytesConst
import Derived.StillTailTactics
namespace Go.Proofs.YtbbhcmfkkkjehaaGreat.PairR
open Go.RowKit Go.Proofs.YtbbhcmfkkkjehaaGreat.Mem Go.Proofs.YtbbhcmfkkkjehaaGreat.Sep
set_option linter.unusedVariables false
set_option linter.unusedSimpArgs false

/-- How far one of the two has come: its load (l), what it builds (b), its append (a), its store (s). -/
inductive Pg where
  | o | l | b | lb | a | f | s
def Pg.all : List Pg := [.o, .l, .b, .lb, .a, .f, .s]
def Pg.done : Pg → Bool
  | .s => true
  | _ => false
structure Chain where
  iL : Nat
  iB : Nat
  iA : Nat
  iF : Nat
  iS : Nat
def Chain.bits (c : Chain) (l : Array Bool) : Pg → Array Bool
  | .o => l
  | .l => l.setIfInBounds c.iL true
  | .b => l.setIfInBounds c.iB true
  | .lb => (l.setIfInBounds c.iL true).setIfInBounds c.iB true
  | .a => ((l.setIfInBounds c.iL true).setIfInBounds c.iB true).setIfInBounds c.iA true
  | .f => (((l.setIfInBounds c.iL true).setIfInBounds c.iB true).setIfInBounds c.iA true).setIfInBounds c.iF true
  | .s => ((((l.setIfInBounds c.iL true).setIfInBounds c.iB true).setIfInBounds c.iA true).setIfInBounds c.iF true).setIfInBounds c.iS true
/-- What comes of it if operation i comes up. -/
def Chain.move (c : Chain) (i : Nat) : Pg → Option Pg
  | .o => if i = c.iL then some .l else if i = c.iB then some .b else none
  | .l => if i = c.iB then some .lb else none
  | .b => if i = c.iL then some .lb else none
  | .lb => if i = c.iA then some .a else none
  | .a => if i = c.iF then some .f else none
  | .f => if i = c.iS then some .s else none
  | .s => none
def tab (c1 c2 : Chain) (base : Array Bool) (p1 p2 : Pg) : Array Bool := c2.bits (c1.bits base p1) p2
def left : Pg → Nat
  | .o => 5
  | .l => 4
  | .b => 4
  | .lb => 3
  | .a => 2
  | .f => 1
  | .s => 0
def checkAt (md : Region.Mode) (ops : Array Oper) (base : Array Bool) (c1 c2 : Chain) (p1 p2 : Pg) : Bool :=
  ((Region.ready md ops (tab c1 c2 base p1 p2)).all fun i => match c1.move i p1 with
    | some p => decide ((tab c1 c2 base p1 p2).setIfInBounds i true = tab c1 c2 base p p2)
    | none => match c2.move i p2 with
      | some p => decide ((tab c1 c2 base p1 p2).setIfInBounds i true = tab c1 c2 base p1 p)
      | none => false) && (!(Region.ready md ops (tab c1 c2 base p1 p2)).isEmpty || (p1.done && p2.done)) && (!(p1.done && p2.done) || (Region.ready md ops (tab c1 c2 base p1 p2)).isEmpty)
def check (md : Region.Mode) (ops : Array Oper) (base : Array Bool) (c1 c2 : Chain) : Bool := Pg.all.all fun p1 => Pg.all.all fun p2 => checkAt md ops base c1 c2 p1 p2
theorem check_at {md : Region.Mode} {ops : Array Oper} {base : Array Bool} {c1 c2 : Chain} (h : check md ops base c1 c2 = true) (p1 p2 : Pg) : checkAt md ops base c1 c2 p1 p2 = true := by
  have h1 := List.all_eq_true.1 h p1 (by cases p1 <;> simp [Pg.all])
  exact List.all_eq_true.1 h1 p2 (by cases p2 <;> simp [Pg.all])

theorem op_append {P : Program} {ops : Array Oper} {Q : Exit → Act → World → Prop} {i : Nat} {o : Oper} {a : Act} {w w' : World} {K : Act → World → Prop} {vs vx v' : Value} (hi : ops[i]? = some o) (hgd : o.guard = none) (s x : Operand) (t : TypeId)
    (ho : o.op = .call { callee := .builtin .append, args := #[s, x], argTypes := #[t, t] }) (hs : a.eval s = vs) (hx : a.eval x = vx) (hr : (Builtin.append_ #[t, t] o.type #[vs, vx]).run P w = .ok v' w') (h : K (a.put o.dst v') w') : wpOp P ops Q i K a w := by
  refine wpOp_step hi (fun K' hK' => ?_)
  have hw : Region.wanted o (yielded ops a.tmps) = true := by simp [Region.wanted, hgd]
  rw [if_pos hw]
  unfold Oper.wp execOp
  simp only [ho, resolve, invoke, builtin, Sem.run_bind, Sem.run_pure, Result.andThen_ok, List.map_toArray, List.map_cons, List.map_nil, hs, hx, hr]
  exact hK' _ _ h
/-- An operation that yields in every world that meets S, taken first: its slot is named. -/
theorem take {P : Program} {md : Region.Mode} {ops : Array Oper} {Q : Exit → Act → World → Prop} {S : World → Prop} {oi : Oper} {fuel : Nat} {listed : Array Bool} {a : Act} {w : World} (i d : Nat) (v : Value) (hi : ops[i]? = some oi) (hd : oi.dst = some d)
    (hs : Region.noSelect ops = true) (hf : Region.free md ops listed i = true) (hr : (Region.ready md ops listed).contains i = true)
    (hQ : ∀ c a w, Q (.panic c) (a.put oi.dst v) w → Q (.panic c) a w) (hw : Region.wanted oi (yielded ops a.tmps) = true) (hy : ∀ w, S w → (execOp a.eval oi).run P w = .ok (.value v) w) (hS : S w)
    (h : wpAnyH P md ops Q S fuel (listed.setIfInBounds i true) (a.put (some d) v) w) : wpAnyH P md ops Q S (fuel + 1) listed a w :=
  wpAnyH_take hi hs hf hr hQ (Or.inl ⟨hw, hy⟩) hS (by rw [hd]; exact h)
/-- One of the two: what its operations do, whatever the other one has done. G: the frame, by what stands in the slots of the load, of what is built, of the append. -/
structure ChOk (P : Program) (ops : Array Oper) (Q : Exit → Act → World → Prop) (c : Chain) (G : Value → Value → Value → Value → Act) (q off : Nat) (u : Value) (X : Array Value) (U t ty : TypeId) : Prop where
  L : ∀ y1 y2 y3 y4 w K, w.cell? ⟨q, off, none⟩ = some u → K (G u y2 y3 y4) w → wpOp P ops Q c.iL K (G y1 y2 y3 y4) w
  B : ∀ y1 y2 y3 y4 w K, K (G y1 (.slice (some ⟨w.heap.size, 0, none⟩) 1 1) y3 y4) (w.alloc (.cells X U)) → wpOp P ops Q c.iB K (G y1 y2 y3 y4) w
  A : ∀ y3 y4 g w v' w' K, (Builtin.append_ #[t, t] ty #[u, .slice (some ⟨g, 0, none⟩) 1 1]).run P w = .ok v' w' → K (G u (.slice (some ⟨g, 0, none⟩) 1 1) v' y4) w' → wpOp P ops Q c.iA K (G u (.slice (some ⟨g, 0, none⟩) 1 1) y3 y4) w
  F : ∀ y1 y2 y3 y4 w K, K (G y1 y2 y3 (.pointer (some ⟨q, off, none⟩))) w → wpOp P ops Q c.iF K (G y1 y2 y3 y4) w
  S : ∀ y1 y2 z n cap w old K, w.cell? ⟨q, off, none⟩ = some old → w.frozen? ⟨q, off, none⟩ = false → K (G y1 y2 (.slice z n cap) (.pointer (some ⟨q, off, none⟩))) (w.setCell ⟨q, off, none⟩ (.slice z n cap)) → wpOp P ops Q c.iS K (G y1 y2 (.slice z n cap) (.pointer (some ⟨q, off, none⟩))) w

/-- What is owned, and what the slots hold, when it has come so far. -/
def St (e : TypeId) (size : Nat) (u : Value) (n : Nat) (xs : List Value) (q off : Nat) (C : Array Value) (T : TypeId) (X : Array Value) (U : TypeId) (y1 y2 y3 y4 : Value) (w0 w : World) (M : List Asn) : Pg → Prop
  | .o => Sp w0 (row e size u n xs :: blk q C T :: M) w
  | .l => y1 = u ∧ Sp w0 (row e size u n xs :: blk q C T :: M) w
  | .b => ∃ g, y2 = .slice (some ⟨g, 0, none⟩) 1 1 ∧ Sp w0 (row e size u n xs :: blk q C T :: blk g X U :: M) w
  | .lb => y1 = u ∧ ∃ g, y2 = .slice (some ⟨g, 0, none⟩) 1 1 ∧ Sp w0 (row e size u n xs :: blk q C T :: blk g X U :: M) w
  | .a => ∃ g a c, y3 = .slice a (n + 1) c ∧ Sp w0 (row e size y3 (n + 1) (xs ++ X.toList) :: blk q C T :: blk g X U :: M) w
  | .f => y4 = .pointer (some ⟨q, off, none⟩) ∧ ∃ g a c, y3 = .slice a (n + 1) c ∧ Sp w0 (row e size y3 (n + 1) (xs ++ X.toList) :: blk q C T :: blk g X U :: M) w
  | .s => ∃ g a c, y3 = .slice a (n + 1) c ∧ Sp w0 (row e size y3 (n + 1) (xs ++ X.toList) :: blk q (C.setIfInBounds off y3) T :: blk g X U :: M) w
section
variable {P : Program} {ops : Array Oper} {Q : Exit → Act → World → Prop} {w0 : World}
structure Cfg where
  e : TypeId
  size : Nat
  bytes : Nat
  z : Value
  u : Value
  n : Nat
  xs : List Value
  q : Nat
  off : Nat
  C : Array Value
  T : TypeId
  X : Array Value
  U : TypeId
  t : TypeId
  ty : TypeId
structure Cfg.Ok (P : Program) (f : Cfg) : Prop where
  ht : P.underlying f.t = some (.slice f.e)
  hi : (P.info? f.e).map (fun i => (i.zero, i.size, i.bytes)) = some (some f.z, f.size, f.bytes)
  hzs : f.z.cells.size = f.size
  hsz : 0 < f.size
  hl : f.X.size = f.size
  h1 : ∀ u ∈ f.X.toList, u.oneCell' = true
  hn : f.n ≤ 1000000
  hb : f.bytes ≤ 1000
  hC : f.C[f.off]? = some f.u
/-- The state of a chain. -/
def Cfg.St (f : Cfg) (y1 y2 y3 y4 : Value) (w0 w : World) (M : List Asn) (p : Pg) : Prop := PairR.St f.e f.size f.u f.n f.xs f.q f.off f.C f.T f.X f.U y1 y2 y3 y4 w0 w M p
/-- The blocks of a chain's state, as a list: the slots' blocks are named. -/
theorem St.other (f : Cfg) {y1 y2 y3 y4 : Value} {w : World} {M : List Asn} {p : Pg} (h : f.St y1 y2 y3 y4 w0 w M p) : ∃ A, Sp w0 (A ++ M) w ∧ ∀ w' M', Sp w0 (A ++ M') w' → f.St y1 y2 y3 y4 w0 w' M' p := by
  cases p with
  | o => exact ⟨[_, _], h, fun w' M' h => h⟩
  | l => exact ⟨[_, _], h.2, fun w' M' h' => ⟨h.1, h'⟩⟩
  | b => obtain ⟨g, h1, h2⟩ := h; exact ⟨[_, _, _], h2, fun w' M' h' => ⟨g, h1, h'⟩⟩
  | lb => obtain ⟨h0, g, h1, h2⟩ := h; exact ⟨[_, _, _], h2, fun w' M' h' => ⟨h0, g, h1, h'⟩⟩
  | a => obtain ⟨g, a, c, h1, h2⟩ := h; exact ⟨[_, _, _], h2, fun w' M' h' => ⟨g, a, c, h1, h'⟩⟩
  | f => obtain ⟨h0, g, a, c, h1, h2⟩ := h; exact ⟨[_, _, _], h2, fun w' M' h' => ⟨h0, g, a, c, h1, h'⟩⟩
  | s => obtain ⟨g, a, c, h1, h2⟩ := h; exact ⟨[_, _, _], h2, fun w' M' h' => ⟨g, a, c, h1, h'⟩⟩
theorem Sp.swap {A B M : List Asn} {w : World} (h : Sp w0 (A ++ (B ++ M)) w) : Sp w0 (B ++ (A ++ M)) w := by
  refine h.perm ?_
  rw [← List.append_assoc, ← List.append_assoc]
  exact List.perm_append_comm.append_right M
/-- One step of a chain: what it may rest on is its own. -/
theorem ChOk.step {c : Chain} {G : Value → Value → Value → Value → Act} {f : Cfg} (hk : ChOk P ops Q c G f.q f.off f.u f.X f.U f.t f.ty) (hf : f.Ok P) {p p' : Pg} {i : Nat} (hm : c.move i p = some p') {y1 y2 y3 y4 : Value} {w : World} {M : List Asn} (h : f.St y1 y2 y3 y4 w0 w M p)
    {K : Act → World → Prop} (hK : ∀ z1 z2 z3 z4 w', f.St z1 z2 z3 z4 w0 w' M p' → K (G z1 z2 z3 z4) w') : wpOp P ops Q i K (G y1 y2 y3 y4) w := by
  have hload : ∀ y1 y2 y3 y4 (w : World) N, Sp w0 (row f.e f.size f.u f.n f.xs :: blk f.q f.C f.T :: N) w → K (G f.u y2 y3 y4) w → wpOp P ops Q c.iL K (G y1 y2 y3 y4) w := fun y1 y2 y3 y4 w N h hk2 =>
    hk.L y1 y2 y3 y4 w K (by rw [(h.blk (b := f.q) (C := f.C) (T := f.T) (List.mem_cons_of_mem _ (List.mem_cons_self ..))).cell]; exact hf.hC) hk2
  cases p with
  | o =>
    simp only [Chain.move] at hm
    split at hm
    · rename_i e; subst e; cases hm
      exact hload _ _ _ _ _ _ h (hK _ _ _ _ _ ⟨rfl, h⟩)
    · split at hm
      · rename_i e; subst e; cases hm
        refine hk.B _ _ _ _ _ _ (hK _ _ _ _ _ ⟨_, rfl, ?_⟩)
        have h1 := Sp.new h f.X f.U
        exact (h1.perm (List.Perm.swap _ _ _)).perm (List.Perm.cons _ (List.Perm.swap _ _ _))
      · cases hm
  | l =>
    simp only [Chain.move] at hm
    split at hm
    · rename_i e; subst e; cases hm
      refine hk.B _ _ _ _ _ _ (hK _ _ _ _ _ ⟨h.1, _, rfl, ?_⟩)
      have h1 := Sp.new h.2 f.X f.U
      exact (h1.perm (List.Perm.swap _ _ _)).perm (List.Perm.cons _ (List.Perm.swap _ _ _))
    · cases hm
  | b =>
    simp only [Chain.move] at hm
    split at hm
    · rename_i e; subst e; cases hm
      obtain ⟨g, h1, h2⟩ := h
      exact hload _ _ _ _ _ _ h2 (hK _ _ _ _ _ ⟨rfl, g, h1, h2⟩)
    · cases hm
  | lb =>
    simp only [Chain.move] at hm
    split at hm
    · rename_i e; subst e; cases hm
      obtain ⟨rfl, g, rfl, h2⟩ := h
      obtain ⟨i0, hi0, hz0, hz1, hz2⟩ := App.info_parts hf.hi
      have hbk := h2.blk (b := g) (C := f.X) (T := f.U) (List.mem_cons_of_mem _ (List.mem_cons_of_mem _ (List.mem_cons_self ..)))
      have hbt : (f.n + 1) * f.bytes ≤ 1000001 * 1000 := Nat.mul_le_mul (by have := hf.hn; omega) hf.hb
      obtain ⟨v', w', hr, hown, hg, _, hat⟩ := run_append_own_at (P := P) w 0 f.t f.ty f.e i0 f.z f.size f.bytes hf.ht hi0 hz0 hz1 hz2 hf.hzs hf.hsz f.u f.n f.xs (h2.row (List.mem_cons_self ..)) ⟨g, 0, none⟩ 1 1 f.X.toList (by simpa using hf.hl) (fun j u hu => by
        rw [Addr.add_mid, Nat.zero_add, hbk.cell]; simpa using hu) hf.h1 (by have := hf.hn; unfold maxLen; omega) (by omega) (Nat.zero_le _)
      have h3 := h2.grow hown hg hat
      obtain ⟨a, cc, e, _, _⟩ := App.own_slice hown
      exact hk.A _ _ _ _ _ _ _ hr (hK _ _ _ _ _ ⟨g, a, cc, e, h3⟩)
    · cases hm
  | a =>
    simp only [Chain.move] at hm
    split at hm
    · rename_i e; subst e; cases hm
      exact hk.F _ _ _ _ _ _ (hK _ _ _ _ _ ⟨rfl, h⟩)
    · cases hm
  | f =>
    simp only [Chain.move] at hm
    split at hm
    · rename_i e; subst e; cases hm
      obtain ⟨rfl, g, a, cc, rfl, h2⟩ := h
      have hbk := h2.blk (b := f.q) (C := f.C) (T := f.T) (List.mem_cons_of_mem _ (List.mem_cons_self ..))
      refine hk.S _ _ _ _ _ _ f.u _ (by rw [hbk.cell]; exact hf.hC) (hbk.frozen _) (hK _ _ _ _ _ ⟨g, a, cc, rfl, ?_⟩)
      exact h2.setAt 1 rfl f.off _
    · cases hm
  | s => simp only [Chain.move] at hm; cases hm
theorem move_left {c : Chain} {p p' : Pg} {i : Nat} (h : c.move i p = some p') : left p' + 1 = left p := by
  cases p <;> simp only [Chain.move] at h
  · split at h
    · cases h; rfl
    · split at h
      · cases h; rfl
      · cases h
  · split at h
    · cases h; rfl
    · cases h
  · split at h
    · cases h; rfl
    · cases h
  · split at h
    · cases h; rfl
    · cases h
  · split at h
    · cases h; rfl
    · cases h
  · split at h
    · cases h; rfl
    · cases h
  · cases h
/-- Both states at once. -/
def Two (f1 f2 : Cfg) (p1 p2 : Pg) (y1 y2 y3 y4 z1 z2 z3 z4 : Value) (w0 w : World) (M : List Asn) : Prop :=
  ∃ A B, Sp w0 (A ++ (B ++ M)) w ∧ (∀ w' M', Sp w0 (A ++ M') w' → f1.St y1 y2 y3 y4 w0 w' M' p1) ∧ (∀ w' M', Sp w0 (B ++ M') w' → f2.St z1 z2 z3 z4 w0 w' M' p2)
/-- **Both.** F: the frame, by what stands in the six slots. -/
theorem both {md : Region.Mode} {base : Array Bool} {c1 c2 : Chain} (hc : check md ops base c1 c2 = true) {S : World → Prop}
    {F : Value → Value → Value → Value → Value → Value → Value → Value → List Value} {ds : List Deferred} {f1 f2 : Cfg} (hf1 : f1.Ok P) (hf2 : f2.Ok P)
    (h1 : ∀ z1 z2 z3 z4, ChOk P ops Q c1 (fun y1 y2 y3 y4 => ⟨(F y1 y2 y3 y4 z1 z2 z3 z4).toArray, ds⟩) f1.q f1.off f1.u f1.X f1.U f1.t f1.ty)
    (h2 : ∀ y1 y2 y3 y4, ChOk P ops Q c2 (fun z1 z2 z3 z4 => ⟨(F y1 y2 y3 y4 z1 z2 z3 z4).toArray, ds⟩) f2.q f2.off f2.u f2.X f2.U f2.t f2.ty)
    {M : List Asn} (hS : ∀ A w, Sp w0 (A ++ M) w → S w)
    (hend : ∀ y1 y2 y4 z1 z2 z4 w g1 g2 a1 k1 a2 k2, Sp w0 (row f2.e f2.size (.slice a2 (f2.n + 1) k2) (f2.n + 1) (f2.xs ++ f2.X.toList) :: blk f2.q (f2.C.setIfInBounds f2.off (.slice a2 (f2.n + 1) k2)) f2.T :: blk g2 f2.X f2.U :: row f1.e f1.size (.slice a1 (f1.n + 1) k1) (f1.n + 1) (f1.xs ++ f1.X.toList) :: blk f1.q (f1.C.setIfInBounds f1.off (.slice a1 (f1.n + 1) k1)) f1.T :: blk g1 f1.X f1.U :: M) w → Q .normal ⟨(F y1 y2 (.slice a1 (f1.n + 1) k1) y4 z1 z2 (.slice a2 (f2.n + 1) k2) z4).toArray, ds⟩ w) :
    ∀ (fuel : Nat) (p1 p2 : Pg) (y1 y2 y3 y4 z1 z2 z3 z4 : Value) (w : World), left p1 + left p2 ≤ fuel → Two f1 f2 p1 p2 y1 y2 y3 y4 z1 z2 z3 z4 w0 w M → wpAnyH P md ops Q S fuel (tab c1 c2 base p1 p2) ⟨(F y1 y2 y3 y4 z1 z2 z3 z4).toArray, ds⟩ w := by
  have fin : ∀ (p1 p2 : Pg) (y1 y2 y3 y4 z1 z2 z3 z4 : Value) (w : World), p1.done = true → p2.done = true → Two f1 f2 p1 p2 y1 y2 y3 y4 z1 z2 z3 z4 w0 w M → Q .normal ⟨(F y1 y2 y3 y4 z1 z2 z3 z4).toArray, ds⟩ w := by
    rintro p1 p2 y1 y2 y3 y4 z1 z2 z3 z4 w d1 d2 ⟨A, B, h, k1, k2⟩
    cases p1 <;> first | cases d1 | skip
    cases p2 <;> first | cases d2 | skip
    obtain ⟨g1, a1, c1, rfl, s1⟩ := k1 _ _ h
    have s2 : Sp w0 ([row f1.e f1.size (.slice a1 (f1.n + 1) c1) (f1.n + 1) (f1.xs ++ f1.X.toList), blk f1.q (f1.C.setIfInBounds f1.off (.slice a1 (f1.n + 1) c1)) f1.T, blk g1 f1.X f1.U] ++ (B ++ M)) w := s1
    obtain ⟨g2, a2, c2, rfl, s3⟩ := k2 _ _ (Sp.swap s2)
    exact hend _ _ _ _ _ _ _ g1 g2 a1 c1 a2 c2 s3
  intro fuel
  induction fuel with
  | zero =>
    intro p1 p2 y1 y2 y3 y4 z1 z2 z3 z4 w hl h
    have d1 : p1.done = true := by cases p1 <;> simp [left] at hl <;> rfl
    have d2 : p2.done = true := by cases p2 <;> simp [left] at hl <;> rfl
    have hk := check_at hc p1 p2
    unfold checkAt at hk
    rw [d1, d2] at hk
    simp only [Bool.and_eq_true, Bool.and_self, Bool.not_true, Bool.false_or] at hk
    exact ⟨List.isEmpty_iff.1 hk.2, fin p1 p2 _ _ _ _ _ _ _ _ w d1 d2 h⟩
  | succ fuel ih =>
    intro p1 p2 y1 y2 y3 y4 z1 z2 z3 z4 w hl h
    have hk := check_at hc p1 p2
    unfold checkAt at hk
    rw [Bool.and_eq_true, Bool.and_eq_true] at hk
    obtain ⟨⟨ka, kb⟩, _⟩ := hk
    refine ⟨fun h0 => ?_, fun i hi => ?_⟩
    · rw [h0] at kb
      simp only [List.isEmpty_nil, Bool.not_true, Bool.false_or, Bool.and_eq_true] at kb
      exact fin p1 p2 _ _ _ _ _ _ _ _ w kb.1 kb.2 h
    · have hi2 := List.all_eq_true.1 ka i hi
      obtain ⟨A, B, hsp, k1, k2⟩ := h
      cases hm1 : c1.move i p1 with
      | some p =>
        rw [hm1] at hi2
        simp only [decide_eq_true_eq] at hi2
        rw [hi2]
        refine (h1 z1 z2 z3 z4).step hf1 hm1 (k1 _ _ hsp) fun x1 x2 x3 x4 w' hst => ?_
        obtain ⟨A', hA', hb⟩ := St.other f1 hst
        refine ⟨hS (A' ++ B) w' (by rw [List.append_assoc]; exact hA'), ih p p2 x1 x2 x3 x4 z1 z2 z3 z4 w' (by have := move_left hm1; omega) ⟨A', B, hA', hb, k2⟩⟩
      | none =>
        rw [hm1] at hi2
        cases hm2 : c2.move i p2 with
        | some p =>
          rw [hm2] at hi2
          simp only [decide_eq_true_eq] at hi2
          rw [hi2]
          refine (h2 y1 y2 y3 y4).step hf2 hm2 (k2 _ _ (Sp.swap hsp)) fun x1 x2 x3 x4 w' hst => ?_
          obtain ⟨B', hB', hb⟩ := St.other f2 hst
          have hB2 := Sp.swap hB'
          refine ⟨hS (A ++ B') w' (by rw [List.append_assoc]; exact hB2), ih p1 p y1 y2 y3 y4 x1 x2 x3 x4 w' (by have := move_left hm2; omega) ⟨A, B', hB2, k1, hb⟩⟩
        | none => rw [hm2] at hi2; cases hi2
/-- From the beginning on, whatever the slots hold. -/
theorem pair {md : Region.Mode} {base : Array Bool} {c1 c2 : Chain} (hc : check md ops base c1 c2 = true) {S : World → Prop}
    {F : Value → Value → Value → Value → Value → Value → Value → Value → List Value} {ds : List Deferred} {f1 f2 : Cfg} (hf1 : f1.Ok P) (hf2 : f2.Ok P)
    (h1 : ∀ z1 z2 z3 z4, ChOk P ops Q c1 (fun y1 y2 y3 y4 => ⟨(F y1 y2 y3 y4 z1 z2 z3 z4).toArray, ds⟩) f1.q f1.off f1.u f1.X f1.U f1.t f1.ty)
    (h2 : ∀ y1 y2 y3 y4, ChOk P ops Q c2 (fun z1 z2 z3 z4 => ⟨(F y1 y2 y3 y4 z1 z2 z3 z4).toArray, ds⟩) f2.q f2.off f2.u f2.X f2.U f2.t f2.ty)
    {M : List Asn} (hS : ∀ A w, Sp w0 (A ++ M) w → S w)
    (hend : ∀ y1 y2 y4 z1 z2 z4 w g1 g2 a1 k1 a2 k2, Sp w0 (row f2.e f2.size (.slice a2 (f2.n + 1) k2) (f2.n + 1) (f2.xs ++ f2.X.toList) :: blk f2.q (f2.C.setIfInBounds f2.off (.slice a2 (f2.n + 1) k2)) f2.T :: blk g2 f2.X f2.U :: row f1.e f1.size (.slice a1 (f1.n + 1) k1) (f1.n + 1) (f1.xs ++ f1.X.toList) :: blk f1.q (f1.C.setIfInBounds f1.off (.slice a1 (f1.n + 1) k1)) f1.T :: blk g1 f1.X f1.U :: M) w → Q .normal ⟨(F y1 y2 (.slice a1 (f1.n + 1) k1) y4 z1 z2 (.slice a2 (f2.n + 1) k2) z4).toArray, ds⟩ w) {fuel : Nat} (hfu : 10 ≤ fuel) {w : World}
    (hsp : Sp w0 (row f1.e f1.size f1.u f1.n f1.xs :: blk f1.q f1.C f1.T :: row f2.e f2.size f2.u f2.n f2.xs :: blk f2.q f2.C f2.T :: M) w) :
    ∀ y1 y2 y3 y4 z1 z2 z3 z4, wpAnyH P md ops Q S fuel (tab c1 c2 base .o .o) ⟨(F y1 y2 y3 y4 z1 z2 z3 z4).toArray, ds⟩ w := fun y1 y2 y3 y4 z1 z2 z3 z4 =>
  both hc hf1 hf2 h1 h2 hS hend fuel .o .o y1 y2 y3 y4 z1 z2 z3 z4 w hfu ⟨[_, _], [_, _], hsp, fun _ _ h => h, fun _ _ h => h⟩
end
end Go.Proofs.YtbbhcmfkkkjehaaGreat.PairR
/- The law's labels, walked: both labels of a raw one. -/
namespace Go.Proofs.YtbbhcmfkkkjehaaGreat.Lab
open Go.RowKit Go.Proofs.YtbbhcmfkkkjehaaGreat.Mem Go.Proofs.YtbbhcmfkkkjehaaGreat.Sep Go.Proofs.YtbbhcmfkkkjehaaGreat.Num Go.Proofs.YtbbhcmfkkkjehaaGreat.B8 Go.Proofs.YtbbhcmfkkkjehaaGreat.CrcS Go.Proofs.YtbbhcmfkkkjehaaGreat.App Go.Proofs.YtbbhcmfkkkjehaaGreat.PairR
open Go.Proofs.YtbbhcmfkkkjehaaGreatW.PrintWords hiding bt
set_option linter.unusedVariables false
set_option linter.unusedSimpArgs false

def cut40 (l : Lb) : Lb := ⟨l.m, l.t, l.ep, l.st.take 40, l.mr.take 40⟩
def il (L : List Int) : List Value := L.map (Value.int .i64)
theorem il_snoc {L : List Int} {k : Nat} {x : Int} (h : L[k]? = some x) : il (L.take k) ++ [Value.int .i64 x] = il (L.take (k + 1)) := by
  rw [List.take_add_one, h]; unfold il; rw [List.map_append]; rfl
attribute [local go_sem] cell_newN frozen_newN
end Go.Proofs.YtbbhcmfkkkjehaaGreat.Lab
/- The document's Put of a label, walked. -/
namespace Go.Proofs.YtbbhcmfkkkjehaaGreat.Lab
open Go.RowKit Go.Proofs.YtbbhcmfkkkjehaaGreat.Mem Go.Proofs.YtbbhcmfkkkjehaaGreat.Sep Go.Proofs.YtbbhcmfkkkjehaaGreat.Num Go.Proofs.YtbbhcmfkkkjehaaGreat.B8 Go.Proofs.YtbbhcmfkkkjehaaGreat.CrcS Go.Proofs.YtbbhcmfkkkjehaaGreat.App
open Go.Proofs.YtbbhcmfkkkjehaaGreatW.PrintWords hiding bt
set_option linter.unusedVariables false
set_option linter.unusedSimpArgs false

theorem Sp.cast {w0 w : World} {L : List Asn} {v : Value} {n m : Nat} {xs ys : List Nat} (h : Sp w0 (Brow.brow v n xs :: L) w) (e : xs = ys) (en : n = m) : Sp w0 (Brow.brow v m ys :: L) w := by subst e en; exact h
theorem cells4 {w w2 : World} {v : Value} {n : Nat} {xs : List Nat} {q r : Nat} {D : Array Value} {T U : TypeId} {a b c d e : Value} {p p' : Addr} {x y : Value}
    (h : Sp w [Brow.brow v n xs, blk q D T, blk r #[a, b, c, d, e] U] w2) (hx : w.cell? p = some x) (hy : w.cell? p' = some y) : w2.cell? ⟨r, 3, none⟩ = some d ∧ w2.cell? ⟨r, 4, none⟩ = some e ∧ w2.cell? p = some x ∧ w2.cell? p' = some y := by
  have hb := h.blk (b := r) (C := #[a, b, c, d, e]) (T := U) (List.mem_cons_of_mem _ (List.mem_cons_of_mem _ (List.mem_cons_self ..)))
  exact ⟨hb.cell 3, hb.cell 4, by rw [h.bel.cell (World.block_lt_of_cell? _ _ hx)]; exact hx, by rw [h.bel.cell (World.block_lt_of_cell? _ _ hy)]; exact hy⟩
theorem zeros_nil : zeros 0 = [] := by unfold zeros; rfl
theorem zeros_snoc (k : Nat) : zeros k ++ [0] = zeros (k + 1) := by unfold zeros; rw [List.replicate_succ']
def lenOf5 : Value → Nat
  | .slice _ n _ => n
  | _ => 0
theorem Sp.came {w0 w w' : World} {L : List Asn} {b : Nat} {C : Array Value} {T : TypeId} (h : Sp w0 L w) (hb : Blk w' b C T) (hge : w.heap.size ≤ b) (hB : Below w.heap.size w w') : Sp w0 (blk b C T :: L) w' := by
  have hsize := h.size
  have h4 := (h.step hB).bel
  obtain ⟨⟨R, h1, h2⟩, h3⟩ := h
  have h5 := h1.lt
  exact ⟨⟨fun k => k = b ∨ R k, ⟨fun k => k = b, R, ⟨hb, fun k => Iff.rfl⟩, h1.same (fun k hk => hB.block k (h5 k hk)), fun k hk hr => by have := h5 k hr; omega, fun k => Iff.rfl⟩, fun k hk => by rcases hk with rfl | hk; omega; exact h2 k hk⟩, h4⟩
/-- Bytes of a constant text: the row bears the mark. -/
theorem Sp.brow_mark {w0 w : World} {L : List Asn} (h : Sp w0 L w) (xs : List Nat) (A : Array Value) (hA : A = (Brow.v8 xs).toArray) (hl : xs.length ≤ 90000) (n : Nat) (hn : xs.length = n) : Sp w0 (Brow.brow (.slice (some ⟨w.heap.size, 0, none⟩) n n) n xs :: L) (w.alloc (.cells A 5 (A.size, A.size + 1))) := by
  have hh : (w.alloc (.cells A 5 (A.size, A.size + 1))).heap[w.heap.size]? = some (.cells A 5 (A.size, A.size + 1)) := heap_alloc_new w _
  have hd := h.any (.cells A 5 (A.size, A.size + 1))
  have hsz : A.size = n := by rw [hA, List.size_toArray, Brow.v8_len, hn]
  have hsize := h.size
  obtain ⟨⟨R, k1, k2⟩, k3⟩ := h
  obtain ⟨_, k4⟩ := hd
  have k5 := k1.lt
  refine ⟨⟨fun k => k = w.heap.size ∨ R k, ⟨fun k => k = w.heap.size, R, ⟨w.heap.size, n, A, _, rfl, ⟨hh, .inl (Nat.le_refl _)⟩, hsz, Nat.le_refl _, by unfold maxLen; omega, hn, ?_, fun k => Iff.rfl⟩, k1.same (fun k hk => Below.heap_alloc w _ _ (k5 k hk)), fun k hk hr => by have := k5 k hr; omega, fun k => Iff.rfl⟩, fun k hk => by rcases hk with rfl | hk; exact hsize; exact k2 k hk⟩, k4⟩
  intro i x hx
  rw [hA, List.getElem?_toArray, Brow.v8_at, hx]; rfl
theorem big1 {n : Nat} (h : n < 256) : big 1 n = [n] := by simp [big, List.range_succ, Nat.mod_eq_of_lt h]
attribute [local irreducible] vn bts big num Lb.byte CrcA.sum Lb.body zeros
set_option maxHeartbeats 8000000 in
set_option maxRecDepth 100000 in
theorem rput_calls (m t ep : Int) (st mr : List Int) (a1 a2 : Option Addr) (n1 n2 c1 c2 : Nat) (hn1 : st.length = n1) (hn2 : mr.length = n2) (hs1 : n1 ≤ 9223372036854775807) (hs2 : n2 ≤ 9223372036854775807) (w : World) (r1 : Rw w a1 st) (r2 : Rw w a2 mr) :
    Calls Tryz.prog 80 #[lval ⟨m, t, ep, st, mr⟩ a1 n1 c1 a2 n2 c2] w fun e w' => e = .returned (.tuple #[.string (bts (Lb.mk m t ep st mr).put), .int .i64 (Lb.mk m t ep st mr).putE]) ∧ Below w.heap.size w w' := by
  have hA := ba (br w) (.cells #[.int .i64 m, .int .i64 t, .int .i64 ep, .slice a1 n1 c1, .slice a2 n2 c2] 71)
  have hb := (Sp.start w).new #[.int .i64 m, .int .i64 t, .int .i64 ep, .slice a1 n1 c1, .slice a2 n2 c2] 71
  have HG := Lib.hid (rgood_calls m t ep st mr a1 a2 n1 n2 c1 c2 hn1 hn2 hs1 hs2 (w.alloc (.cells #[.int .i64 m, .int .i64 t, .int .i64 ep, .slice a1 n1 c1, .slice a2 n2 c2] 71)) (r1.step hA) (r2.step hA))
  cases hg : (Lb.mk m t ep st mr).good with
  | false =>
    have e1 : (Lb.mk m t ep st mr).put = [] := by unfold Lb.put; rw [hg]; rfl
    have e2 : (Lb.mk m t ep st mr).putE = 4 := by unfold Lb.putE; rw [hg]; rfl
    rw [hg] at HG
    rw [e1, e2]
    have e3 : bts [] = ⟨#[]⟩ := by unfold bts B8.bytes; rfl
    rw [e3]
    have HA := Lib.hid hA
    clear hb hA hg e1 e2 e3 r1 r2 hn1 hn2 hs1 hs2
    show Calls Tryz.prog 80 #[.agg #[.int .i64 m, .int .i64 t, .int .i64 ep, .slice a1 n1 c1, .slice a2 n2 c2]] w _
    go_enter Tryz.func80, Tryz.ntmps80
    go_wp2_with fail
    refine HG.out.mono ?_
    rintro e w' ⟨rfl, hbel⟩
    have HB := Lib.hid hbel
    clear hbel
    go_wp2
    go_ret2
    exact ⟨rfl, bt HA.out HB.out⟩
  | true =>
    have e1 : (Lb.mk m t ep st mr).put = (Lb.mk m t ep st mr).sec := by unfold Lb.put; rw [hg]; rfl
    have e2 : (Lb.mk m t ep st mr).putE = 0 := by unfold Lb.putE; rw [hg]; rfl
    obtain ⟨M, T, E, hM, hT, hE⟩ := good_nat hg
    have hM : m = M := hM
    have hT : t = T := hT
    have hE : ep = E := hE
    subst hM hT hE
    rw [hg] at HG
    rw [e1, e2]
    have hok := (Lb.good_iff _).1 hg
    have k1 : (M : Int) ≤ 32 := hok.m32
    have k2 : (T : Int) ≤ 64 := hok.t64
    have k3 : (E : Int) ≤ 9007199254740992 := hok.e2
    have k4 : (n1 : Int) = M := by rw [← hn1]; exact hok.st
    have k5 : (n2 : Int) = M := by rw [← hn2]; exact hok.mr
    obtain ⟨md, hmd⟩ : ∃ md, md = (Lb.mk (M : Int) T E st mr).mid := ⟨_, rfl⟩
    have hml : md.length = n1 := by rw [hmd, Lb.mid_length]; exact hn1
    obtain ⟨B8e, hB8⟩ : ∃ l, l = big 8 E := ⟨_, rfl⟩
    have hB8l : B8e.length = 8 := by rw [hB8, big_length]
    have hbody : (Lb.mk (M : Int) T E st mr).body = magic ++ B8e ++ [M] ++ [T] ++ md ++ zeros (46 - (14 + n1)) := by
      unfold Lb.body
      rw [Lb.head_length, show (Lb.mk (M : Int) T E st mr).st.length = n1 from hn1]
      unfold Lb.head
      rw [← hmd, hB8, ← big1 (show M < 256 by omega), ← big1 (show T < 256 by omega)]; rfl
    have hsec : (Lb.mk (M : Int) T E st mr).sec = (Lb.mk (M : Int) T E st mr).body ++ big 4 (CrcA.sum (Lb.mk (M : Int) T E st mr).body) ++ zeros 14 := rfl
    rw [hsec]
    have hbl : (Lb.mk (M : Int) T E st mr).body.length = 46 := Lb.body_length hok.n32
    have hblt : ∀ b ∈ (Lb.mk (M : Int) T E st mr).body, b < 256 := body_lt _
    obtain ⟨bdy, hbd⟩ : ∃ bdy, bdy = (Lb.mk (M : Int) T E st mr).body := ⟨_, rfl⟩
    rw [← hbd] at hbody hbl hblt ⊢
    obtain ⟨c, hc⟩ : ∃ c, c = CrcA.sum bdy := ⟨_, rfl⟩
    have hc4 : c < 4294967296 := by rw [hc]; have := CrcA.sum_lt bdy hblt; have e : (256 : Nat) ^ 4 = 4294967296 := by decide
                                    omega
    rw [← hc]
    obtain ⟨B4, hB4⟩ : ∃ l, l = big 4 c := ⟨_, rfl⟩
    have hB4l : B4.length = 4 := by rw [hB4, big_length]
    have hB4lt : ∀ b ∈ B4, b < 256 := by rw [hB4]; exact big_lt _ _
    rw [← hB4]
    have HBIG := Lib.hid (fun w2 => big_calls E 8 (by omega) (by omega) w2)
    rw [← hB8] at HBIG
    have HBIG4 := Lib.hid (fun w2 => big_calls c 4 (by omega) (by omega) w2)
    rw [← hB4] at HBIG4
    have HSUM := Lib.hid (fun w2 => sum_calls (bts bdy) (by rw [bts_size, hbl]; omega) w2)
    rw [by8_bts _ hblt, ← hc] at HSUM
    have HL := Lib.hid (And.intro hml (And.intro hB8l (And.intro hB4l (And.intro hbl (And.intro hblt hB4lt)))))
    have HBD := Lib.hid hbody
    have HOK := Lib.hid (And.intro hok (And.intro hn1 (And.intro hn2 (And.intro hmd hc4))))
    have HRW := Lib.hid (And.intro r1 r2)
    have hn32 : n1 ≤ 32 := by omega
    have HS := Lib.hid hb
    have k6 : IntKind.u64.wrap (E : Int) = (E : Int) := IntWalk.u64_in _ (by omega)
    have k7 : IntKind.u8.wrap (M : Int) = (M : Int) := IntWalk.u8_in _ (by omega)
    have k8 : IntKind.u8.wrap (T : Int) = (T : Int) := IntWalk.u8_in _ (by omega)
    have HK := Lib.hid (And.intro k4 k5)
    clear hbd hc hB4 hB8 hmd hml hB8l hB4l hbl hblt hB4lt hbody hsec hok hn1 hn2 r1 r2 hA hb hg e1 e2 hs1 hs2 k4 k5 hc4
    show Calls Tryz.prog 80 #[.agg #[.int .i64 (M : Nat), .int .i64 (T : Nat), .int .i64 (E : Nat), .slice a1 n1 c1, .slice a2 n2 c2]] w _
    go_enter Tryz.func80, Tryz.ntmps80
    go_wp2_with fail
    refine HG.out.mono ?_
    rintro e w' ⟨rfl, hbel⟩
    have h1 := HS.out.step hbel
    obtain ⟨r, hr⟩ : ∃ r, r = w.heap.size := ⟨_, rfl⟩
    rw [← hr] at h1 ⊢
    have h1 : Sp w [blk r #[.int .i64 (M : Nat), .int .i64 (T : Nat), .int .i64 (E : Nat), .slice a1 n1 c1, .slice a2 n2 c2] 71] w' := h1
    clear hr hbel HS HG
    obtain ⟨⟨g0, g1, g2, g3, g4⟩, _⟩ := five (h1.blk (b := r) (C := #[.int .i64 (M : Nat), .int .i64 (T : Nat), .int .i64 (E : Nat), .slice a1 n1 c1, .slice a2 n2 c2]) (T := 71) (List.mem_cons_self ..))
    have h2 : Sp w [Brow.brow (.slice (some ⟨w'.heap.size, 0, none⟩) 4 4) 4 magic, blk r #[.int .i64 (M : Nat), .int .i64 (T : Nat), .int .i64 (E : Nat), .slice a1 n1 c1, .slice a2 n2 c2] 71] (w'.alloc (.cells #[.int .u8 84, .int .u8 82, .int .u8 85, .int .u8 78] 5 (4, 5))) := Sp.brow_mark h1 magic _ rfl (by decide) 4 rfl
    have kc : (convert 56 56 (.slice (some ⟨w'.heap.size, 0, none⟩) 4 4)).run Tryz.prog (w'.alloc (.cells #[.int .u8 84, .int .u8 82, .int .u8 85, .int .u8 78] 5)) = .ok (.slice (some ⟨w'.heap.size, 0, none⟩) 4 4) (w'.alloc (.cells #[.int .u8 84, .int .u8 82, .int .u8 85, .int .u8 78] 5 (4, 5))) := Lib.run_convert_bytes_const w' _ _ _ 4 4 (by kernel_rfl) (by kernel_rfl)
    have g2' := (h2.blk (b := r) (C := #[.int .i64 (M : Nat), .int .i64 (T : Nat), .int .i64 (E : Nat), .slice a1 n1 c1, .slice a2 n2 c2]) (T := 71) (List.mem_cons_of_mem _ (List.mem_cons_self ..))).cell 2
    have g2' : _ = some (Value.int .i64 (E : Nat)) := g2'
    have H2 := Lib.hid h2
    clear h1 h2
    go_wp2_with fail
    refine (HBIG.out _).mono ?_
    rintro e w2 ⟨rfl, hbk, hbl⟩
    have h3 := Sp.came H2.out hbk (Nat.le_refl _) hbl
    obtain ⟨q, hq⟩ : ∃ q, q = (w'.alloc (.cells #[.int .u8 84, .int .u8 82, .int .u8 85, .int .u8 78] 5 (4, 5))).heap.size := ⟨_, rfl⟩
    rw [← hq] at h3 ⊢
    have h3 := h3.front 1 rfl
    have h3 : Sp w [Brow.brow (.slice (some ⟨w'.heap.size, 0, none⟩) 4 4) 4 magic, blk q (vn B8e) 5, blk r #[.int .i64 (M : Nat), .int .i64 (T : Nat), .int .i64 (E : Nat), .slice a1 n1 c1, .slice a2 n2 c2] 71] w2 := h3
    generalize Value.slice (some ⟨w'.heap.size, 0, none⟩) 4 4 = v0 at h3 ⊢
    have H3 := Lib.hid h3
    clear h3 hbk hbl hq H2 g0 g1 g2 g3 g4 g2' kc
    have hBl := HL.out.2.1
    have HBl := Lib.hid hBl
    clear hBl
    go_wp2
    go_loopw [5, 7] (fun x5 i wr => ∃ (k : Nat) (v : Value), k ≤ 8 ∧ i = .int .i64 k ∧ v = x5 ∧ Sp w [Brow.brow v (4 + k) (magic ++ B8e.take k), blk q (vn B8e) 5, blk r #[.int .i64 (M : Nat), .int .i64 (T : Nat), .int .i64 (E : Nat), .slice a1 n1 c1, .slice a2 n2 c2] 71] wr) (fun _ i _ => 8 - (intOf i).toNat)
    case atStart => exact ⟨0, _, Nat.zero_le _, rfl, rfl, by have h := H3.out; rw [List.take_zero, List.append_nil]; exact h⟩
    case round =>
      clear H3
      obtain ⟨k, v, hk, rfl, rfl, h5⟩ := hrel
      by_cases hlt : k < 8
      · have dlt : decide ((k : Int) < (8 : Int)) = true := decide_eq_true (by omega)
        have i0 : (0 : Int) ≤ (k : Int) := by omega
        have i1 : (k : Int) < (8 : Int) := by omega
        obtain ⟨z, hz⟩ : ∃ z, B8e[k]? = some z := ⟨_, List.getElem?_eq_getElem (by rw [HBl.out]; exact hlt)⟩
        have cx : wr.cell? ⟨q, k, none⟩ = some (.int .u8 (z : Nat)) := by rw [(h5.blk (b := q) (C := vn B8e) (T := 5) (List.mem_cons_of_mem _ (List.mem_cons_self ..))).cell, vn_at, hz]; rfl
        have HX := Lib.hid hz
        have H5 := Lib.hid h5
        clear hz h5
        go_wp2_with (at_builtin; refine wpList_app8 rfl (.tmp 26) (.tmp 31) rfl v (4 + k) (magic ++ B8e.take k) rfl H5.out _ _ _ rfl (by first | rfl | simp) (by omega) ?_)
        intro v' w2 h2
        have H6 := Lib.hid (Sp.cast h2 (ys := magic ++ B8e.take (k + 1)) (m := 4 + (k + 1)) (by rw [List.take_add_one, HX.out]; simp) (by omega))
        clear h2 H5 HX
        go_wp2
        go_roundw
        case measure => simp [intOf]; omega
        case rel => exact ⟨k + 1, _, by omega, by go_num, rfl, H6.out⟩
      · obtain rfl : k = 8 := by omega
        have dlt : decide ((8 : Int) < (8 : Int)) = false := decide_eq_false (by omega)
        rw [List.take_of_length_le (by rw [HBl.out]; exact Nat.le_refl _)] at h5
        have H5 := Lib.hid h5
        clear h5
        have H5 : Hid (Sp w [Brow.brow v (4 + 8) (magic ++ B8e), blk q (vn B8e) 5, blk r #[.int .i64 (M : Nat), .int .i64 (T : Nat), .int .i64 (E : Nat), .slice a1 n1 c1, .slice a2 n2 c2] 71] wr) := H5
        obtain ⟨⟨g0, g1, g2, g3, g4⟩, _⟩ := five (H5.out.blk (b := r) (C := #[.int .i64 (M : Nat), .int .i64 (T : Nat), .int .i64 (E : Nat), .slice a1 n1 c1, .slice a2 n2 c2]) (T := 71) (List.mem_cons_of_mem _ (List.mem_cons_of_mem _ (List.mem_cons_self ..))))
        go_wp2_with (at_builtin; refine wpList_app8 rfl (.tmp 33) (.tmp 38) rfl v (4 + 8) (magic ++ B8e) rfl H5.out _ _ _ rfl (by first | rfl | simp) (by omega) ?_)
        intro v' w2 h2
        have h2 : Sp w [Brow.brow v' (4 + 8 + 1) (magic ++ B8e ++ [M]), blk q (vn B8e) 5, blk r #[.int .i64 (M : Nat), .int .i64 (T : Nat), .int .i64 (E : Nat), .slice a1 n1 c1, .slice a2 n2 c2] 71] w2 := h2
        have g0' : w2.cell? ⟨r, 1, none⟩ = some (.int .i64 (T : Nat)) := (h2.blk (b := r) (C := #[.int .i64 (M : Nat), .int .i64 (T : Nat), .int .i64 (E : Nat), .slice a1 n1 c1, .slice a2 n2 c2]) (T := 71) (List.mem_cons_of_mem _ (List.mem_cons_of_mem _ (List.mem_cons_self ..)))).cell 1
        have H6 := Lib.hid h2
        clear h2 H5 g0 g1 g2 g3 g4
        go_wp2_with (at_builtin; refine wpList_app8 rfl (.tmp 40) (.tmp 45) rfl v' (4 + 8 + 1) (magic ++ B8e ++ [M]) rfl H6.out _ _ _ rfl (by first | rfl | simp) (by omega) ?_)
        intro v' w2 h2
        have H7 : Hid (Sp w [Brow.brow v' 14 (magic ++ B8e ++ [M] ++ [T]), blk q (vn B8e) 5, blk r #[.int .i64 (M : Nat), .int .i64 (T : Nat), .int .i64 (E : Nat), .slice a1 n1 c1, .slice a2 n2 c2] 71] w2) := Lib.hid (Sp.cast h2 (by simp) rfl)
        clear h2 H6 g0'
        go_wp2
        go_loopw [5, 8] (fun x5 i wr => ∃ (k : Nat) (v : Value), k ≤ n1 ∧ i = .int .i64 k ∧ v = x5 ∧ Sp w [Brow.brow v (14 + k) ((magic ++ B8e ++ [M] ++ [T]) ++ md.take k), blk q (vn B8e) 5, blk r #[.int .i64 (M : Nat), .int .i64 (T : Nat), .int .i64 (E : Nat), .slice a1 n1 c1, .slice a2 n2 c2] 71] wr) (fun _ i _ => n1 - (intOf i).toNat)
        case atStart => exact ⟨0, _, Nat.zero_le _, rfl, rfl, by have h := H7.out; rw [List.take_zero, List.append_nil]; exact h⟩
        case round =>
          clear H7
          obtain ⟨k, v, hk, rfl, rfl, h5⟩ := hrel
          have hq := h5.blk (b := r) (C := #[.int .i64 (M : Nat), .int .i64 (T : Nat), .int .i64 (E : Nat), .slice a1 n1 c1, .slice a2 n2 c2]) (T := 71) (List.mem_cons_of_mem _ (List.mem_cons_of_mem _ (List.mem_cons_self ..)))
          have e3 : wr.cell? ⟨r, 3, none⟩ = some (.slice a1 n1 c1) := hq.cell 3
          have e4 : wr.cell? ⟨r, 4, none⟩ = some (.slice a2 n2 c2) := hq.cell 4
          by_cases hlt : k < n1
          · have dlt : decide ((k : Int) < (n1 : Int)) = true := decide_eq_true (by omega)
            have i0 : (0 : Int) ≤ (k : Int) := by omega
            have i1 : (k : Int) < (n1 : Int) := by omega
            have i2 : (k : Int) < (n2 : Int) := by have := HK.out; omega
            obtain ⟨x, hx⟩ : ∃ x, st[k]? = some x := ⟨_, List.getElem?_eq_getElem (by rw [HOK.out.2.1]; exact hlt)⟩
            obtain ⟨y, hy⟩ : ∃ y, mr[k]? = some y := ⟨_, List.getElem?_eq_getElem (by rw [HOK.out.2.2.1]; have := HK.out; omega)⟩
            obtain ⟨p, hp, cx0⟩ := HRW.out.1 k x hx
            obtain ⟨q', hq', cy0⟩ := HRW.out.2 k y hy
            have cx := h5.bel.cell (World.block_lt_of_cell? _ _ cx0)
            have cy := h5.bel.cell (World.block_lt_of_cell? _ _ cy0)
            rw [cx0] at cx
            rw [cy0] at cy
            subst hp hq'
            have gx : st.getD k 0 = x := by rw [List.getD_eq_getElem?_getD, hx]; rfl
            have gy : mr.getD k 0 = y := by rw [List.getD_eq_getElem?_getD, hy]; rfl
            have hok := HOK.out.1.at_ k (by show k < st.length; rw [HOK.out.2.1]; exact hlt)
            have hok : okAt T (st.getD k 0) (mr.getD k 0) = true := hok
            rw [gx, gy, okAt_iff] at hok
            have x0 : 0 ≤ x := hok.1
            have x2 : x ≤ 2 := hok.2.1
            have y0 : 0 ≤ y := hok.2.2.1
            have y1 : y < 64 := by omega
            obtain ⟨xn, rfl⟩ := Int.eq_ofNat_of_zero_le x0
            obtain ⟨yn, rfl⟩ := Int.eq_ofNat_of_zero_le y0
            obtain ⟨z, hz⟩ : ∃ z, z = (Lb.mk M T E st mr).byte k := ⟨_, rfl⟩
            have hz2 : z = 64 * xn + yn := by
              rw [hz]; unfold Lb.byte
              show (64 * st.getD k 0 + mr.getD k 0).toNat % 256 = _
              rw [gx, gy]; omega
            have hz256 : z < 256 := by omega
            have hmk : md[k]? = some z := by
              rw [HOK.out.2.2.2.1, hz]; unfold Lb.mid
              rw [List.getElem?_map, List.getElem?_range (by show k < st.length; rw [HOK.out.2.1]; exact hlt)]; rfl
            have ev2 : IntKind.u8.wrap (IntKind.i64.wrap (IntKind.i64.wrap (64 * (xn : Int)) + (yn : Int))) = (z : Int) := by
              rw [show IntKind.i64.wrap (64 * (xn : Int)) = 64 * (xn : Int) from IntWalk.i64_in _ (by omega), show IntKind.i64.wrap (64 * (xn : Int) + (yn : Int)) = 64 * (xn : Int) + (yn : Int) from IntWalk.i64_in _ (by omega), show (64 * (xn : Int) + (yn : Int)) = (z : Int) by omega]
              exact IntWalk.u8_in _ (by omega)
            have x2n : (xn : Int) ≤ 2 := x2
            have y1n : (yn : Int) < 64 := y1
            have HX := Lib.hid hmk
            have HC0 := Lib.hid (And.intro cx0 cy0)
            have HEV := Lib.hid ev2
            have H5 := Lib.hid h5.drew
            clear cx0 cy0 hx hy gx gy hok hz hz2 hz256 hmk h5 hq ev2 hlt
            go_upto_region 15 with fail
            go_region_held3 (fun w' => w'.cell? ⟨r, 3, none⟩ = some (.slice (some p) n1 c1) ∧ w'.cell? ⟨r, 4, none⟩ = some (.slice (some q') n2 c2) ∧ w'.cell? (p.add k) = some (.int .i64 (xn : Nat)) ∧ w'.cell? (q'.add k) = some (.int .i64 (yn : Nat)))
              (first | assumption | exact ⟨e3, e4, cx, cy⟩ | go_keep)
              ((refine step_app8 (by rfl) (.tmp 54) (.tmp 68) (by rfl) v (14 + k) (magic ++ B8e ++ [M] ++ [T] ++ md.take k) (by rfl) H5.out z _ HEV.out _ _ (by rfl) (by first | rfl | simp) (by omega) ?_; intro v' w2 h2; have hS2 := cells4 h2 HC0.out.1 HC0.out.2))
            have H6 := Lib.hid (Sp.cast h2 (ys := (magic ++ B8e ++ [M] ++ [T]) ++ md.take (k + 1)) (m := 14 + (k + 1)) (by rw [List.take_add_one, HX.out]; simp) (by omega))
            clear h2 H5 HX hS2
            go_wp2
            go_roundw
            case measure => simp [intOf]; omega
            case rel => exact ⟨k + 1, _, by omega, by go_num, rfl, H6.out⟩
          · obtain rfl : k = n1 := by omega
            have dlt : decide ((k : Int) < (k : Int)) = false := decide_eq_false (by omega)
            rw [List.take_of_length_le (by rw [HL.out.1]; exact Nat.le_refl _)] at h5
            obtain ⟨k0, hk0⟩ : ∃ k0, k0 = k := ⟨_, rfl⟩
            subst hk0
            have H5 := Lib.hid h5
            clear h5 hq
            go_wp2
            clear dlt e3 e4
            go_loopw [5] (fun x5 wr => ∃ (k : Nat) (v : Value), 14 + k0 + k ≤ 46 ∧ v = x5 ∧ Sp w [Brow.brow v (14 + k0 + k) (((magic ++ B8e ++ [M] ++ [T]) ++ md) ++ zeros k), blk q (vn B8e) 5, blk r #[.int .i64 (M : Nat), .int .i64 (T : Nat), .int .i64 (E : Nat), .slice a1 k0 c1, .slice a2 n2 c2] 71] wr) (fun x5 _ => 46 - lenOf5 x5)
            case atStart => exact ⟨0, _, by omega, rfl, by have h := H5.out; rw [zeros_nil, List.append_nil]; exact h⟩
            case round =>
              clear H5
              obtain ⟨k, v, hk, rfl, h5⟩ := hrel
              obtain ⟨g5, cap5, _, _, rfl, _⟩ := Brow.Sp.brow h5
              by_cases hlt : 14 + k0 + k < 46
              · have dlt : decide (((14 + k0 + k : Nat) : Int) < (46 : Int)) = true := decide_eq_true (by omega)
                have H5 := Lib.hid h5
                clear h5
                go_wp2_with (at_builtin; refine wpList_app8 rfl (.tmp 73) (.tmp 74) rfl (.slice (some ⟨g5, 0, none⟩) (14 + k0 + k) cap5) (14 + k0 + k) (((magic ++ B8e ++ [M] ++ [T]) ++ md) ++ zeros k) rfl H5.out _ _ _ rfl (by first | rfl | simp) (by omega) ?_)
                intro v' w2 h2
                have h2 := Sp.cast h2 (ys := ((magic ++ B8e ++ [M] ++ [T]) ++ md) ++ zeros (k + 1)) (m := 14 + k0 + (k + 1)) (by rw [← zeros_snoc]; simp) (by omega)
                obtain ⟨g6, cap6, _, _, rfl, _⟩ := Brow.Sp.brow h2
                have H6 := Lib.hid h2
                clear h2 H5
                go_wp2
                go_roundw
                case measure => simp [lenOf5]; omega
                case rel => exact ⟨k + 1, _, by omega, rfl, H6.out⟩
              · obtain ⟨k', hk'⟩ : ∃ k', k' = k := ⟨_, rfl⟩
                have hke : k = 46 - (14 + k0) := by omega
                have dlt : decide (((14 + k0 + k : Nat) : Int) < (46 : Int)) = false := decide_eq_false (by omega)
                have H5 := Lib.hid h5
                have HKE := Lib.hid hke
                clear h5 hk' hke
                have h5 := Sp.cast H5.out (ys := bdy) (m := 46) (by rw [HBD.out, HKE.out]) (by have := HKE.out; omega)
                have hcv := Brow.Sp.brow_text h5 HL.out.2.2.2.2.1
                have H6 := Lib.hid h5
                have k9 : IntKind.u64.wrap (c : Int) = (c : Int) := IntWalk.u64_in _ (by have := HOK.out.2.2.2.2; omega)
                clear h5 H5
                go_wp2_with fail
                refine (HSUM.out _).mono ?_
                rintro e w2 ⟨rfl, nd, rfl⟩
                go_wp2_with fail
                refine (HBIG4.out _).mono ?_
                rintro e w2 ⟨rfl, hbk, hbl⟩
                have h3 := (Sp.came (H6.out.drewN nd) hbk (Nat.le_refl _) hbl).front 1 rfl
                have h3 : Sp w [Brow.brow (.slice (some ⟨g5, 0, none⟩) (14 + k0 + k) cap5) 46 bdy, blk (wr.drewN nd).heap.size (vn B4) 5, blk q (vn B8e) 5, blk r #[.int .i64 (M : Nat), .int .i64 (T : Nat), .int .i64 (E : Nat), .slice a1 k0 c1, .slice a2 n2 c2] 71] w2 := h3
                obtain ⟨q4, hq4⟩ : ∃ q, q = (wr.drewN nd).heap.size := ⟨_, rfl⟩
                rw [← hq4] at h3 ⊢
                generalize Value.slice (some ⟨g5, 0, none⟩) (14 + k0 + k) cap5 = v0 at h3 ⊢
                have H7 := Lib.hid h3
                have HB4l := Lib.hid HL.out.2.2.1
                clear h3 hbk hbl hq4 H6 k9 hcv dlt HKE hlt hk
                go_wp2
                go_loopw [5, 11] (fun x5 i wr => ∃ (k : Nat) (v : Value), k ≤ 4 ∧ i = .int .i64 k ∧ v = x5 ∧ Sp w [Brow.brow v (46 + k) (bdy ++ B4.take k), blk q4 (vn B4) 5, blk q (vn B8e) 5, blk r #[.int .i64 (M : Nat), .int .i64 (T : Nat), .int .i64 (E : Nat), .slice a1 k0 c1, .slice a2 n2 c2] 71] wr) (fun _ i _ => 4 - (intOf i).toNat)
                case atStart => exact ⟨0, _, Nat.zero_le _, rfl, rfl, by have h := H7.out; rw [List.take_zero, List.append_nil]; exact h⟩
                case round =>
                  clear H7
                  obtain ⟨k, v, hk, rfl, rfl, h5⟩ := hrel
                  by_cases hlt : k < 4
                  · have dlt : decide ((k : Int) < (4 : Int)) = true := decide_eq_true (by omega)
                    have i0 : (0 : Int) ≤ (k : Int) := by omega
                    have i1 : (k : Int) < (4 : Int) := by omega
                    obtain ⟨z, hz⟩ : ∃ z, B4[k]? = some z := ⟨_, List.getElem?_eq_getElem (by rw [HB4l.out]; exact hlt)⟩
                    have cx : wr.cell? ⟨q4, k, none⟩ = some (.int .u8 (z : Nat)) := by rw [(h5.blk (b := q4) (C := vn B4) (T := 5) (List.mem_cons_of_mem _ (List.mem_cons_self ..))).cell, vn_at, hz]; rfl
                    have HX := Lib.hid hz
                    have H5 := Lib.hid h5
                    clear hz h5
                    go_wp2_with (at_builtin; refine wpList_app8 rfl (.tmp 86) (.tmp 91) rfl v (46 + k) (bdy ++ B4.take k) rfl H5.out _ _ _ rfl (by first | rfl | simp) (by omega) ?_)
                    intro v' w2 h2
                    have H6 := Lib.hid (Sp.cast h2 (ys := bdy ++ B4.take (k + 1)) (m := 46 + (k + 1)) (by rw [List.take_add_one, HX.out]; simp) (by omega))
                    clear h2 H5 HX
                    go_wp2
                    go_roundw
                    case measure => simp [intOf]; omega
                    case rel => exact ⟨k + 1, _, by omega, by go_num, rfl, H6.out⟩
                  · obtain rfl : k = 4 := by omega
                    have dlt : decide ((4 : Int) < (4 : Int)) = false := decide_eq_false (by omega)
                    rw [List.take_of_length_le (by rw [HB4l.out]; exact Nat.le_refl _)] at h5
                    have H5 := Lib.hid h5
                    clear h5
                    simp only [Int.cast_ofNat_Int]
                    go_wp2
                    clear dlt
                    go_loopw [5] (fun x5 wr => ∃ (k : Nat) (v : Value), 50 + k ≤ 64 ∧ v = x5 ∧ Sp w [Brow.brow v (50 + k) ((bdy ++ B4) ++ zeros k), blk q4 (vn B4) 5, blk q (vn B8e) 5, blk r #[.int .i64 (M : Nat), .int .i64 (T : Nat), .int .i64 (E : Nat), .slice a1 k0 c1, .slice a2 n2 c2] 71] wr) (fun x5 _ => 64 - lenOf5 x5)
                    case atStart => exact ⟨0, _, by omega, rfl, by have h := H5.out; rw [zeros_nil, List.append_nil]; exact h⟩
                    case round =>
                      clear H5
                      obtain ⟨k, v, hk, rfl, h5⟩ := hrel
                      obtain ⟨g5, cap5, _, _, rfl, _⟩ := Brow.Sp.brow h5
                      by_cases hlt : 50 + k < 64
                      · have dlt : decide (((50 + k : Nat) : Int) < (64 : Int)) = true := decide_eq_true (by omega)
                        have H5 := Lib.hid h5
                        clear h5
                        go_wp2_with (at_builtin; refine wpList_app8 rfl (.tmp 96) (.tmp 97) rfl (.slice (some ⟨g5, 0, none⟩) (50 + k) cap5) (50 + k) ((bdy ++ B4) ++ zeros k) rfl H5.out _ _ _ rfl (by first | rfl | simp) (by omega) ?_)
                        intro v' w2 h2
                        have h2 := Sp.cast h2 (ys := (bdy ++ B4) ++ zeros (k + 1)) (m := 50 + (k + 1)) (by rw [← zeros_snoc]; simp) (by omega)
                        obtain ⟨g6, cap6, _, _, rfl, _⟩ := Brow.Sp.brow h2
                        have H6 := Lib.hid h2
                        clear h2 H5
                        go_wp2
                        go_roundw
                        case measure => simp [lenOf5]; omega
                        case rel => exact ⟨k + 1, _, by omega, rfl, H6.out⟩
                      · obtain ⟨k', hk'⟩ : ∃ k', k' = k := ⟨_, rfl⟩
                        have hke : k = 64 - (50) := by omega
                        have dlt : decide (((50 + k : Nat) : Int) < (64 : Int)) = false := decide_eq_false (by omega)
                        have H5 := Lib.hid h5
                        have HKE := Lib.hid hke
                        clear h5 hk' hke
                        obtain rfl : k = 14 := by have := HKE.out; omega
                        have hcv := Brow.Sp.brow_text H5.out (fun b hb => by
                          rcases List.mem_append.1 hb with hb | hb
                          · rcases List.mem_append.1 hb with hb | hb
                            · exact HL.out.2.2.2.2.1 b hb
                            · exact HL.out.2.2.2.2.2 b hb
                          · exact zeros_lt _ b hb)
                        go_wp2
                        go_ret2
                        exact ⟨rfl, H5.out.bel⟩
end Go.Proofs.YtbbhcmfkkkjehaaGreat.Lab
/- The document's Get of a label, walked. -/
namespace Go.Proofs.YtbbhcmfkkkjehaaGreat.Lab
open Go.RowKit Go.Proofs.YtbbhcmfkkkjehaaGreat.Mem Go.Proofs.YtbbhcmfkkkjehaaGreat.Sep Go.Proofs.YtbbhcmfkkkjehaaGreat.Num Go.Proofs.YtbbhcmfkkkjehaaGreat.B8 Go.Proofs.YtbbhcmfkkkjehaaGreat.CrcS
open Go.Proofs.YtbbhcmfkkkjehaaGreatW.PrintWords hiding bt
open Go.Proofs.YtbbhcmfkkkjehaaGreat.App
set_option linter.unusedVariables false
set_option linter.unusedSimpArgs false
attribute [local go_sem] cell_newN frozen_newN

theorem rget_ret {W : World} {b : Nat} {v0 v1 v2 v3 v4 e : Value} {T : TypeId} (hb : Blk W b #[v0, v1, v2, v3, v4] T) {Q : Ending → World → Prop} (x0 x1 : Value) (r : List Value) (h : Q (.returned (.tuple #[.agg #[v0, v1, v2, v3, v4], e])) W) :
    bodyPost Tryz.prog Tryz.f133 Q Exit.ret { tmps := (x0 :: x1 :: .pointer (some ⟨b, 0, none⟩) :: e :: r).toArray, defers := [] } W := by
  obtain ⟨⟨c0, c1, c2, c3, c4⟩, _⟩ := five hb
  exact bodyPost_ret (v := .tuple #[.agg #[v0, v1, v2, v3, v4], e]) (by simp [results, Tryz.results133, go_sem, *]) rfl h
theorem four_iff (s : ByteArray) : s.extract 0 4 = ⟨#[84, 82, 85, 78]⟩ ↔ (by8 s).take 4 = magic := by
  have e : by8 (s.extract 0 4) = (by8 s).take 4 := by rw [by8_extract]; rfl
  constructor
  · intro h; rw [← e, h]; rfl
  · intro h
    apply by8_inj
    rw [e, h]; rfl
attribute [local irreducible] vn bts big num CrcA.sum by8
set_option maxHeartbeats 8000000 in
set_option maxRecDepth 100000 in
theorem rget_head (s : ByteArray) (hs : s.size ≤ 9223372036854775807) (h : s.size ≠ 64 ∨ (by8 s).take 4 ≠ magic) (w : World) :
    Calls Tryz.prog 133 #[.string s] w fun e w' => e = .returned (.tuple #[zlab, .int .i64 4]) ∧ Below w.heap.size w w' := by
  have hb0 := Blk.new w #[.int .i64 0, .int .i64 0, .int .i64 0, .slice none 0 0, .slice none 0 0] 71
  obtain ⟨⟨e0, e1, e2, e3, e4⟩, f0, f1, f2, f3, f4⟩ := five hb0
  have HB := Lib.hid hb0
  by_cases h6 : s.size = 64
  · have hm : s.extract 0 4 ≠ ⟨#[84, 82, 85, 78]⟩ := fun e => h.elim (fun k => k h6) (fun k => k ((four_iff s).1 e))
    obtain ⟨hm1, hm2⟩ := toList_ne hm
    rw [ByteArray.toList_eq (⟨#[84, 82, 85, 78]⟩ : ByteArray)] at hm1 hm2
    have hm1 : ((s.extract 0 4).toList == [84, 82, 85, 78]) = false := hm1
    have hm2 : ¬ (s.extract 0 4).toList = [84, 82, 85, 78] := hm2
    have z1 : ((s.size : Int) == 64) = true := beq_iff_eq.2 (by omega)
    have z2 : ((s.size : Int) != 64) = false := by rw [bne, z1]; rfl
    have z3 : (4 : Int) ≤ (s.size : Int) := by omega
    clear hb0 h h6 hm
    go_enter Tryz.func133, Tryz.ntmps133
    go_wp2
    refine rget_ret HB.out _ _ _ ⟨rfl, ?_⟩
    exact ba (br w) _
  · have z1 : ((s.size : Int) == 64) = false := beq_eq_false_iff_ne.2 (by omega)
    have z2 : ((s.size : Int) != 64) = true := by rw [bne, z1]; rfl
    clear hb0 h h6
    go_enter Tryz.func133, Tryz.ntmps133
    go_wp2
    refine rget_ret HB.out _ _ _ ⟨rfl, ?_⟩
    exact ba (br w) _
set_option maxHeartbeats 8000000 in
set_option maxRecDepth 100000 in
theorem rget_sum (s : ByteArray) (h64 : s.size = 64) (hm : (by8 s).take 4 = magic) (hne : num (((by8 s).drop 46).take 4) ≠ CrcA.sum ((by8 s).take 46)) (w : World) :
    Calls Tryz.prog 133 #[.string s] w fun e w' => e = .returned (.tuple #[zlab, .int .i64 6]) ∧ Below w.heap.size w w' := by
  have hb0 := Blk.new w #[.int .i64 0, .int .i64 0, .int .i64 0, .slice none 0 0, .slice none 0 0] 71
  obtain ⟨⟨e0, e1, e2, e3, e4⟩, f0, f1, f2, f3, f4⟩ := five hb0
  have HB := Lib.hid hb0
  have z0 : s.extract 0 4 = ⟨#[84, 82, 85, 78]⟩ := (four_iff s).2 hm
  have z1 : ((s.size : Int) == 64) = true := beq_iff_eq.2 (by omega)
  have z2 : ((s.size : Int) != 64) = false := by rw [bne, z1]; rfl
  have k1 := num_calls (s.extract 46 50) (by rw [ByteArray.size_extract]; omega)
  have k2 := sum_calls (s.extract 0 46) (by rw [ByteArray.size_extract]; omega)
  rw [by8_extract] at k1 k2
  obtain ⟨a, ha⟩ : ∃ a, a = num (((by8 s).drop 46).take (50 - 46)) := ⟨_, rfl⟩
  obtain ⟨b, hb⟩ : ∃ b, b = CrcA.sum (((by8 s).drop 0).take (46 - 0)) := ⟨_, rfl⟩
  rw [← ha] at k1
  rw [← hb] at k2
  have hab : a ≠ b := by rw [ha, hb]; simpa using hne
  have hb32 : b < 4294967296 := by rw [hb]; exact CrcA.sum_lt _ (fun x hx => by8_lt s x (List.mem_of_mem_drop (List.mem_of_mem_take hx)))
  have c3 : IntKind.u64.wrap (b : Int) = (b : Int) := IntWalk.u64_in _ (by omega)
  have s1 : (50 : Int) ≤ (s.size : Int) := by omega
  have s2 : (46 : Int) ≤ (s.size : Int) := by omega
  have s3 : (4 : Int) ≤ (s.size : Int) := by omega
  have s4 : (12 : Int) < (s.size : Int) := by omega
  have c1 : ((a : Int) == (b : Int)) = false := beq_eq_false_iff_ne.2 (by omega)
  have c2 : ((a : Int) != (b : Int)) = true := bne_iff_ne.2 (by omega)
  have K1 := Lib.hid k1
  have K2 := Lib.hid k2
  clear hb0 hm hne k1 k2 ha hb hab h64
  go_enter Tryz.func133, Tryz.ntmps133
  go_wp2_with fail
  refine (K2.out _).mono ?_
  rintro e w2 ⟨rfl, ⟨nd, rfl⟩⟩
  go_wp2_with fail
  refine (K1.out _).mono ?_
  rintro e w2 ⟨rfl, ⟨nd2, rfl⟩⟩
  go_wp2
  refine rget_ret (Blk.set5 (HB.out.drewN _) _ _ _ _ _) _ _ _ ⟨rfl, ?_⟩
  exact below5 (bd (ba (br w) _) _) (Nat.le_refl _) _ _ _ _ _
/-- As many members as no array has. -/
theorem not_lab {s : List Nat} (h : s.getD 12 0 < 4 ∨ 32 < s.getD 12 0) : isLab s = false := by
  unfold isLab
  have : (dec s).good = false := by
    cases hg : (dec s).good with
    | false => rfl
    | true =>
      have ok := (Lb.good_iff _).1 hg
      have h1 : 4 ≤ ((s.getD 12 0 : Nat) : Int) := ok.m4
      have h2 : ((s.getD 12 0 : Nat) : Int) ≤ 32 := ok.m32
      omega
  rw [this]; rfl
set_option maxHeartbeats 8000000 in
set_option maxRecDepth 100000 in
theorem rget_few (s : ByteArray) (h64 : s.size = 64) (hm : (by8 s).take 4 = magic) (heq : num (((by8 s).drop 46).take 4) = CrcA.sum ((by8 s).take 46)) (hM : (by8 s).getD 12 0 < 4 ∨ 32 < (by8 s).getD 12 0) (w : World) :
    Calls Tryz.prog 133 #[.string s] w fun e w' => e = .returned (.tuple #[zlab, .int .i64 4]) ∧ Below w.heap.size w w' := by
  have hb0 := Blk.new w #[.int .i64 0, .int .i64 0, .int .i64 0, .slice none 0 0, .slice none 0 0] 71
  obtain ⟨⟨e0, e1, e2, e3, e4⟩, f0, f1, f2, f3, f4⟩ := five hb0
  have HB := Lib.hid hb0
  have z0 : s.extract 0 4 = ⟨#[84, 82, 85, 78]⟩ := (four_iff s).2 hm
  have z1 : ((s.size : Int) == 64) = true := beq_iff_eq.2 (by omega)
  have z2 : ((s.size : Int) != 64) = false := by rw [bne, z1]; rfl
  have k1 := num_calls (s.extract 46 50) (by rw [ByteArray.size_extract]; omega)
  have k2 := sum_calls (s.extract 0 46) (by rw [ByteArray.size_extract]; omega)
  rw [by8_extract] at k1 k2
  obtain ⟨a, ha⟩ : ∃ a, a = num (((by8 s).drop 46).take (50 - 46)) := ⟨_, rfl⟩
  obtain ⟨b, hb⟩ : ∃ b, b = CrcA.sum (((by8 s).drop 0).take (46 - 0)) := ⟨_, rfl⟩
  rw [← ha] at k1
  rw [← hb] at k2
  have hab : a = b := by rw [ha, hb]; simpa using heq
  have hb32 : b < 4294967296 := by rw [hb]; exact CrcA.sum_lt _ (fun x hx => by8_lt s x (List.mem_of_mem_drop (List.mem_of_mem_take hx)))
  have c3 : IntKind.u64.wrap (b : Int) = (b : Int) := IntWalk.u64_in _ (by omega)
  have s1 : (50 : Int) ≤ (s.size : Int) := by omega
  have s2 : (46 : Int) ≤ (s.size : Int) := by omega
  have s3 : (4 : Int) ≤ (s.size : Int) := by omega
  have s4 : (12 : Int) < (s.size : Int) := by omega
  rw [hab] at k1
  have c1 : ((b : Int) == (b : Int)) = true := beq_self_eq_true _
  have c2 : ((b : Int) != (b : Int)) = false := bne_self_eq_false _
  have K1 := Lib.hid k1
  have K2 := Lib.hid k2
  obtain ⟨M, hM8, hMb, hMe⟩ := by8_at s 12 (by omega)
  rw [List.getD_eq_getElem?_getD, hMe] at hM
  have hM : M < 4 ∨ 32 < M := hM
  clear hb0 hm heq k1 k2 ha hb hab h64 hMe
  rcases hM with hM | hM
  · have dM : decide ((M : Int) < 4) = true := decide_eq_true (by omega)
    go_enter Tryz.func133, Tryz.ntmps133
    go_wp2_with fail
    refine (K2.out _).mono ?_
    rintro e w2 ⟨rfl, ⟨nd, rfl⟩⟩
    go_wp2_with fail
    refine (K1.out _).mono ?_
    rintro e w2 ⟨rfl, ⟨nd2, rfl⟩⟩
    go_wp2
    refine rget_ret (Blk.set5 (HB.out.drewN _) _ _ _ _ _) _ _ _ ⟨rfl, ?_⟩
    exact below5 (bd (ba (br w) _) _) (Nat.le_refl _) _ _ _ _ _
  · have dM : decide ((M : Int) < 4) = false := decide_eq_false (by omega)
    have dM2 : decide ((32 : Int) < (M : Int)) = true := decide_eq_true (by omega)
    go_enter Tryz.func133, Tryz.ntmps133
    go_wp2_with fail
    refine (K2.out _).mono ?_
    rintro e w2 ⟨rfl, ⟨nd, rfl⟩⟩
    go_wp2_with fail
    refine (K1.out _).mono ?_
    rintro e w2 ⟨rfl, ⟨nd2, rfl⟩⟩
    go_wp2
    refine rget_ret (Blk.set5 (HB.out.drewN _) _ _ _ _ _) _ _ _ ⟨rfl, ?_⟩
    exact below5 (bd (ba (br w) _) _) (Nat.le_refl _) _ _ _ _ _
theorem rows_only4 {w0 w : World} {A B C D : Asn} (h : Sp w0 [A, B, C, D] w) : Sp w0 [B, C] w := by
  have h1 : Sp w0 [B, C, D] w := h.tail
  have h2 : Sp w0 [D, B, C] w := h1.front 2 rfl
  exact h2.tail
set_option maxHeartbeats 8000000 in
set_option maxRecDepth 100000 in
theorem rget_main (s : ByteArray) (h64 : s.size = 64) (hm : (by8 s).take 4 = magic) (heq : num (((by8 s).drop 46).take 4) = CrcA.sum ((by8 s).take 46)) (hM4 : 4 ≤ (by8 s).getD 12 0) (hM32 : (by8 s).getD 12 0 ≤ 32) (w : World) :
    Calls Tryz.prog 133 #[.string s] w fun e w' => (∃ v, e = .returned (.tuple #[v, .int .i64 (Lab.getE (by8 s))]) ∧ GotT 3 w w' v (Lab.get (by8 s))) ∧ Below w.heap.size w w' := by
  have HB := Lib.hid ((Sp.start w).new z5 71)
  have z0 : s.extract 0 4 = ⟨#[84, 82, 85, 78]⟩ := (four_iff s).2 hm
  have z1 : ((s.size : Int) == 64) = true := beq_iff_eq.2 (by omega)
  have z2 : ((s.size : Int) != 64) = false := by rw [bne, z1]; rfl
  have k1 := num_calls (s.extract 46 50) (by rw [ByteArray.size_extract]; omega)
  have k2 := sum_calls (s.extract 0 46) (by rw [ByteArray.size_extract]; omega)
  rw [by8_extract] at k1 k2
  obtain ⟨a, ha⟩ : ∃ a, a = num (((by8 s).drop 46).take (50 - 46)) := ⟨_, rfl⟩
  obtain ⟨b, hb⟩ : ∃ b, b = CrcA.sum (((by8 s).drop 0).take (46 - 0)) := ⟨_, rfl⟩
  rw [← ha] at k1
  rw [← hb] at k2
  have k3 := num_calls (s.extract 4 12) (by rw [ByteArray.size_extract]; omega)
  rw [by8_extract] at k3
  obtain ⟨ep, hep⟩ : ∃ ep, ep = num (((by8 s).drop 4).take (12 - 4)) := ⟨_, rfl⟩
  rw [← hep] at k3
  have hab : a = b := by rw [ha, hb]; simpa using heq
  have hb32 : b < 4294967296 := by rw [hb]; exact CrcA.sum_lt _ (fun x hx => by8_lt s x (List.mem_of_mem_drop (List.mem_of_mem_take hx)))
  have c3 : IntKind.u64.wrap (b : Int) = (b : Int) := IntWalk.u64_in _ (by omega)
  have s1 : (50 : Int) ≤ (s.size : Int) := by omega
  have s2 : (46 : Int) ≤ (s.size : Int) := by omega
  have s3 : (4 : Int) ≤ (s.size : Int) := by omega
  have s4 : (12 : Int) < (s.size : Int) := by omega
  rw [hab] at k1
  have c1 : ((b : Int) == (b : Int)) = true := beq_self_eq_true _
  have c2 : ((b : Int) != (b : Int)) = false := bne_self_eq_false _
  have K1 := Lib.hid k1
  have K2 := Lib.hid k2
  have K3 := Lib.hid k3
  have HD := Lib.hid (And.intro hm (And.intro heq (And.intro h64 hep)))
  clear hm heq k1 k2 k3 ha hb hab hep
  go_enter Tryz.func133, Tryz.ntmps133
  go_wp2_with fail
  refine (K2.out _).mono ?_
  rintro e w2 ⟨rfl, ⟨nd, rfl⟩⟩
  go_upto_region 4 with fail
  have H1 := HB.out.drewN nd
  have H1 : Sp w [blk w.heap.size z5 71] ((w.alloc (.cells #[.int .i64 0, .int .i64 0, .int .i64 0, .slice none 0 0, .slice none 0 0] 71)).drewN nd) := H1
  obtain ⟨r, hr⟩ : ∃ r, r = w.heap.size := ⟨_, rfl⟩
  rw [← hr] at H1 ⊢
  generalize (w.alloc (.cells #[.int .i64 0, .int .i64 0, .int .i64 0, .slice none 0 0, .slice none 0 0] 71)).drewN nd = w1 at H1 ⊢
  have HH := Lib.hid H1
  have HRR := Lib.hid hr
  clear H1 HB z0 z1 z2 hr
  go_cut [27] (fun x27 wx => x27 = .bool false ∧ Sp w [blk r z5 71] wx)
  case first =>
    go_wp2_with fail
    refine (K1.out _).mono ?_
    rintro e w2 ⟨rfl, ⟨nd2, rfl⟩⟩
    go_wp2
    go_meet
    case rel => exact ⟨rfl, HH.out.drewN _⟩
  case rest =>
    obtain ⟨rfl, H2⟩ := hcut
    have H2 := Lib.hid H2
    clear HH K1 K2
    obtain ⟨M, hM, hMb, hM8⟩ := by8_at s 12 (by omega)
    obtain ⟨T, hT, hTb, hT8⟩ := by8_at s 13 (by omega)
    rw [List.getD_eq_getElem?_getD, hM8] at hM4 hM32
    have hM4 : 4 ≤ M := hM4
    have hM32 : M ≤ 32 := hM32
    have s5 : (13 : Int) < (s.size : Int) := by omega
    have s6 : (12 : Int) ≤ (s.size : Int) := by omega
    have m4 : IntKind.i64.wrap (T : Int) = (T : Int) := IntWalk.i64_in _ (by omega)
    have m5 : IntKind.i64.wrap (M : Int) = (M : Int) := IntWalk.i64_in _ (by omega)
    have dM : decide ((M : Int) < 4) = false := decide_eq_false (by omega)
    have dM2 : decide ((32 : Int) < (M : Int)) = false := decide_eq_false (by omega)
    have HE := Lib.hid (And.intro hM8 hT8)
    clear hM8 hT8
    go_upto_region 9 with fail
    go_cut [6] (fun x6 wx => ∃ q, x6 = .pointer (some ⟨q, 0, none⟩) ∧ Sp w [blk q #[.int .i64 (M : Nat), .int .i64 (T : Nat), .int .i64 (IntKind.i64.wrap (ep : Nat)), .slice none 0 0, .slice none 0 0] 71, blk r z5 71] wx)
    case first =>
      go_region_held3 (fun w' => True)
        (first | assumption | trivial)
        (first
          | (go_at_call 171; refine (K3.out _).mono ?_; rintro e w2 ⟨rfl, ⟨nd, rfl⟩⟩))
      all_goals go_wp2
      all_goals go_meet
      all_goals (case rel => exact ⟨_, rfl, by first | exact Sp.new5 ((H2.out.drewN _).new _ _) | exact Sp.new5 ((H2.out.new _ _).drewN _)⟩)
    case rest =>
      obtain ⟨q, rfl, H3⟩ := hcut
      have H3 := Lib.hid H3
      clear H2 c3 c1 c2 s1 s2 s3 s4 s5 s6 m4 m5 hMb hTb K3 hb32 dM dM2
      obtain ⟨ms, hms⟩ : ∃ ms, ms = mems (by8 s) := ⟨_, rfl⟩
      have hms2 : ms = ((by8 s).drop 14).take M := by
        rw [hms]; unfold mems; rw [List.getD_eq_getElem?_getD, HE.out.1]; show _ = _
        rw [show min ((some M).getD 0) 32 = M from Nat.min_eq_left hM32]
      have hn : M = ms.length := by
        rw [hms2, List.length_take, List.length_drop, by8_length, h64]; omega
      have HM := Lib.hid (And.intro hms (And.intro hn hms2))
      obtain ⟨E, hE⟩ : ∃ E : Int, E = IntKind.i64.wrap (ep : Nat) := ⟨_, rfl⟩
      rw [← hE] at H3
      have HEE := Lib.hid hE
      have H64 := Lib.hid h64
      clear hms hn hms2 hE h64
      go_wp2
      go_loopw [7] (fun i wr => ∃ (k : Nat) (u v : Value), k ≤ M ∧ i = .int .i64 k ∧ Sp w [row 3 1 u k (qs (ms.take k)), row 3 1 v k (rs (ms.take k)), blk q #[.int .i64 (M : Nat), .int .i64 (T : Nat), .int .i64 E, u, v] 71, blk r z5 71] wr) (fun i _ => M - (intOf i).toNat)
      case atStart =>
        have h := (H3.out.nil 3 1).nil 3 1
        exact ⟨0, .slice none 0 0, .slice none 0 0, Nat.zero_le _, rfl, h⟩
      case round =>
        clear H3
        obtain ⟨k, u, v, hk, rfl, h5⟩ := hrel
        by_cases hlt : k < M
        · have dlt : decide ((k : Int) < (M : Int)) = true := decide_eq_true (by omega)
          obtain ⟨x, hx, hxb, hx8⟩ := by8_at s (14 + k) (by have := H64.out; omega)
          have hmx : ms[k]? = some x := by
            rw [HM.out.2.2, List.getElem?_take, if_pos hlt, List.getElem?_drop]; exact hx8
          have e14 : (14 + (k : Int)).toNat = 14 + k := by omega
          have w14 : IntKind.i64.wrap (14 + (k : Int)) = 14 + (k : Int) := IntWalk.i64_in _ (by omega)
          have i0 : (0 : Int) ≤ 14 + (k : Int) := by omega
          have i1 : 14 + (k : Int) < (s.size : Int) := by have := H64.out; omega
          have hq := (h5.blk (b := q) (C := #[.int .i64 (M : Nat), .int .i64 (T : Nat), .int .i64 E, u, v]) (T := 71) (List.mem_cons_of_mem _ (List.mem_cons_of_mem _ (List.mem_cons_self ..))))
          have c3 : wr.cell? ⟨q, 3, none⟩ = some u := hq.cell 3
          have c3' : (wr.alloc (.cells #[.int .i64 (IntKind.i64.wrap ((IntKind.i64.wrap (x : Int)).tdiv 64))] 3)).cell? ⟨q, 3, none⟩ = some u := ((h5.any _).blk (b := q) (C := #[.int .i64 (M : Nat), .int .i64 (T : Nat), .int .i64 E, u, v]) (T := 71) (List.mem_cons_of_mem _ (List.mem_cons_of_mem _ (List.mem_cons_self ..)))).cell 3
          have hq1 : qs (ms.take k) ++ (#[Value.int .i64 (IntKind.i64.wrap ((IntKind.i64.wrap (x : Int)).tdiv 64))] : Array Value).toList = qs (ms.take (k + 1)) := by
            rw [List.take_add_one, hmx]
            unfold qs
            rw [List.map_append, show IntKind.i64.wrap (x : Int) = (x : Int) from IntWalk.i64_in _ (by omega), show (x : Int).tdiv 64 = ((x / 64 : Nat) : Int) from rfl, show IntKind.i64.wrap ((x / 64 : Nat) : Int) = ((x / 64 : Nat) : Int) from IntWalk.i64_in _ (by omega)]; rfl
          have hq2 : rs (ms.take k) ++ (#[Value.int .i64 ((IntKind.i64.wrap (x : Int)).tmod 64)] : Array Value).toList = rs (ms.take (k + 1)) := by
            rw [List.take_add_one, hmx]
            unfold rs
            rw [List.map_append, show IntKind.i64.wrap (x : Int) = (x : Int) from IntWalk.i64_in _ (by omega), show (x : Int).tmod 64 = ((x % 64 : Nat) : Int) from rfl]; rfl
          have HQ := Lib.hid (And.intro hq1 hq2)
          have HX := Lib.hid hmx
          have H5 := Lib.hid h5.drew
          clear hmx hx8 hq h5 hq1 hq2
          go_upto_region 13 with fail
          go_cut [] (fun wx => ∃ u' : Value, Sp w [row 3 1 u' (k + 1) (qs (ms.take (k + 1))), row 3 1 v k (rs (ms.take k)), blk q #[.int .i64 (M : Nat), .int .i64 (T : Nat), .int .i64 E, u', v] 71, blk r z5 71] wx)
          case first =>
            go_region_law ((refine step_app (by rfl) (.tmp 55) (.tmp 62) 31 (by rfl) 3 (.int .i64 0) 1 8 (by kernel_rfl) (by kernel_rfl) rfl (by decide) u k _ (by rfl) H5.out _ _ _ (by rfl) (by first | rfl | simp) rfl (by intro y hy; have hy : y ∈ [_] := hy; rw [List.mem_singleton.1 hy]; rfl) (by omega) (by decide) ?_; intro v' w2 h6; rw [HQ.out.1] at h6; obtain ⟨ua, uc, rfl, _, _⟩ := App.own_slice (h6.row (v := v') (n := k + 1) (T := 3) (List.mem_cons_self ..)); have hq6 := (h6.blk (b := q) (C := #[.int .i64 (M : Nat), .int .i64 (T : Nat), .int .i64 E, u, v]) (T := 71) (List.mem_cons_of_mem _ (List.mem_cons_of_mem _ (List.mem_cons_self ..)))); have d3 : w2.cell? ⟨q, 3, none⟩ = some u := hq6.cell 3; have f3 : w2.frozen? ⟨q, 3, none⟩ = false := hq6.frozen 3; have H7 := Lib.hid (h6.setAt 2 rfl 3 (.slice ua (k + 1) uc)); clear hq6 h6))
            all_goals go_wp2
            all_goals go_meet
            all_goals (case rel => exact ⟨_, H7.out⟩)
          case rest =>
            obtain ⟨u', h6⟩ := hcut
            clear c3 c3' H5
            have hq := (h6.blk (b := q) (C := #[.int .i64 (M : Nat), .int .i64 (T : Nat), .int .i64 E, u', v]) (T := 71) (List.mem_cons_of_mem _ (List.mem_cons_of_mem _ (List.mem_cons_self ..))))
            have c3 : wc.cell? ⟨q, 4, none⟩ = some v := hq.cell 4
            have c3' : (wc.alloc (.cells #[.int .i64 ((IntKind.i64.wrap (x : Int)).tmod 64)] 3)).cell? ⟨q, 4, none⟩ = some v := ((h6.any _).blk (b := q) (C := #[.int .i64 (M : Nat), .int .i64 (T : Nat), .int .i64 E, u', v]) (T := 71) (List.mem_cons_of_mem _ (List.mem_cons_of_mem _ (List.mem_cons_self ..)))).cell 4
            have h8 : Sp w [row 3 1 v k (rs (ms.take k)), row 3 1 u' (k + 1) (qs (ms.take (k + 1))), blk q #[.int .i64 (M : Nat), .int .i64 (T : Nat), .int .i64 E, u', v] 71, blk r z5 71] wc.drew := (h6.front 1 rfl).drew
            have H5 := Lib.hid h8
            clear h6 hq h8
            go_upto_region 14 with fail
            go_region_law ((refine step_app (by rfl) (.tmp 66) (.tmp 73) 31 (by rfl) 3 (.int .i64 0) 1 8 (by kernel_rfl) (by kernel_rfl) rfl (by decide) v k _ (by rfl) H5.out _ _ _ (by rfl) (by first | rfl | simp) rfl (by intro y hy; have hy : y ∈ [_] := hy; rw [List.mem_singleton.1 hy]; rfl) (by omega) (by decide) ?_; intro v' w2 h6; rw [HQ.out.2] at h6; obtain ⟨ua, uc, rfl, _, _⟩ := App.own_slice (h6.row (v := v') (n := k + 1) (T := 3) (List.mem_cons_self ..)); have hq6 := (h6.blk (b := q) (C := #[.int .i64 (M : Nat), .int .i64 (T : Nat), .int .i64 E, u', v]) (T := 71) (List.mem_cons_of_mem _ (List.mem_cons_of_mem _ (List.mem_cons_self ..)))); have d3 : w2.cell? ⟨q, 4, none⟩ = some v := hq6.cell 4; have f3 : w2.frozen? ⟨q, 4, none⟩ = false := hq6.frozen 4; have H7 := Lib.hid ((h6.setAt 2 rfl 4 (.slice ua (k + 1) uc)).front 1 rfl); clear hq6 h6))
            all_goals (
              clear c3 c3' H5
              go_wp2
              go_roundw
              case measure => simp [intOf]; omega
              case rel => exact ⟨k + 1, _, _, by omega, by go_num, H7.out⟩)
        · obtain rfl : k = M := by omega
          have dlt : decide ((k : Int) < (k : Int)) = false := decide_eq_false (by omega)
          rw [List.take_of_length_le (by rw [← HM.out.2.1]; exact Nat.le_refl _)] at h5
          obtain ⟨ua, uc, rfl, hu1, hu2⟩ := App.own_slice (h5.row (v := u) (n := k) (T := 3) (List.mem_cons_self ..))
          have h6 := h5.front 1 rfl
          obtain ⟨va, vc, rfl, hv1, hv2⟩ := App.own_slice (h6.row (v := v) (n := k) (T := 3) (List.mem_cons_self ..))
          have r1 : Rw wr ua (ms.map fun x => ((x / 64 : Nat) : Int)) := by
            have h := h5.row (v := .slice ua k uc) (n := k) (T := 3) (List.mem_cons_self ..)
            rw [qs_map] at h
            exact rw_row h
          have r2 : Rw wr va (ms.map fun x => ((x % 64 : Nat) : Int)) := by
            have h := h6.row (v := .slice va k vc) (n := k) (T := 3) (List.mem_cons_self ..)
            rw [rs_map] at h
            exact rw_row h
          obtain ⟨st, hst⟩ : ∃ st, st = ms.map fun x => ((x / 64 : Nat) : Int) := ⟨_, rfl⟩
          obtain ⟨mr, hmr⟩ : ∃ mr, mr = ms.map fun x => ((x % 64 : Nat) : Int) := ⟨_, rfl⟩
          rw [← hst] at r1
          rw [← hmr] at r2
          have hD : dec (by8 s) = ⟨k, T, E, st, mr⟩ := by
            unfold dec
            rw [← HM.out.1, hst, hmr, HEE.out, HD.out.2.2.2, List.getD_eq_getElem?_getD, HE.out.1, List.getD_eq_getElem?_getD, HE.out.2]; rfl
          have hlen : ms.length = k := HM.out.2.1.symm
          have hstl : st.length = k := by rw [hst, List.length_map]; exact hlen
          have hmrl : mr.length = k := by rw [hmr, List.length_map]; exact hlen
          have hq := (h5.blk (b := q) (C := #[.int .i64 (k : Nat), .int .i64 (T : Nat), .int .i64 E, .slice ua k uc, .slice va k vc]) (T := 71) (List.mem_cons_of_mem _ (List.mem_cons_of_mem _ (List.mem_cons_self ..))))
          obtain ⟨⟨e0, e1, e2, e3, e4⟩, _⟩ := five hq
          have HPUT := rput_calls k T E st mr ua va k k uc vc hstl hmrl (by omega) (by omega) wr r1 r2
          have hgE := getE_main (by8 s) (by rw [by8_length]; exact HD.out.2.2.1) HD.out.1 HD.out.2.1
          have hgt : Lab.get (by8 s) = if isLab (by8 s) then dec (by8 s) else Lb.zero := by
            unfold Lab.get; rw [hgE]
            cases isLab (by8 s) <;> rfl
          have H5 := Lib.hid h5
          clear h5 h6 hq r1 r2 hlen hu1 hu2 hv1 hv2
          have hrow : ∀ w3 v0 v1 v2 v3 v4, Sp w [blk r #[v0, v1, v2, v3, v4] 71, row 3 1 (.slice ua k uc) k (qs ms), row 3 1 (.slice va k vc) k (rs ms), blk q #[.int .i64 (k : Nat), .int .i64 (T : Nat), .int .i64 E, .slice ua k uc, .slice va k vc] 71] w3 → GotT 3 w w3 (.agg #[.int .i64 (k : Nat), .int .i64 (T : Nat), .int .i64 E, .slice ua k uc, .slice va k vc]) (dec (by8 s)) := by
            intro w3 v0 v1 v2 v3 v4 h
            rw [hD]
            refine ⟨ua, k, uc, va, k, vc, rfl, hstl, hmrl, by omega, by omega, fun _ => ?_⟩
            have h := rows_only4 h
            rw [qs_map, rs_map, ← hst, ← hmr] at h
            exact h
          have HROW := Lib.hid hrow
          clear hrow hstl hmrl
          cases hg : (Lb.mk k T E st mr).good with
          | false =>
            have p1 : (Lb.mk k T E st mr).put = [] := by unfold Lb.put; rw [hg]; rfl
            have p2 : (Lb.mk k T E st mr).putE = 4 := by unfold Lb.putE; rw [hg]; rfl
            have hL : isLab (by8 s) = false := by unfold isLab; rw [hD, hg]; rfl
            rw [p1, p2] at HPUT
            rw [hL] at hgE hgt
            have HPUT : Calls Tryz.prog 80 #[.agg #[.int .i64 (k : Nat), .int .i64 (T : Nat), .int .i64 E, .slice ua k uc, .slice va k vc]] wr _ := HPUT
            have HP := Lib.hid HPUT
            have HG := Lib.hid (And.intro hgE hgt)
            clear HPUT hgE hgt hL p1 p2 hg hD
            go_wp2_with fail
            refine HP.out.mono ?_
            rintro e w2 ⟨rfl, hb2⟩
            have h6 : Sp w [blk r z5 71, row 3 1 (.slice ua k uc) k (qs ms), row 3 1 (.slice va k vc) k (rs ms), blk q #[.int .i64 (k : Nat), .int .i64 (T : Nat), .int .i64 E, .slice ua k uc, .slice va k vc] 71] w2 := (H5.out.step hb2).front 3 rfl
            have hrb : Blk w2 r #[.int .i64 0, .int .i64 0, .int .i64 0, .slice none 0 0, .slice none 0 0] 71 := h6.blk (List.mem_cons_self ..)
            obtain ⟨⟨g0, g1, g2, g3, g4⟩, f0, f1, f2, f3, f4⟩ := five hrb
            have H6 := Lib.hid h6
            have HRB := Lib.hid hrb
            clear h6 hb2 hrb
            go_wp2
            refine rget_ret (Blk.set5 HRB.out _ _ _ _ _) _ _ _ ⟨⟨_, by rw [HG.out.1]; rfl, by rw [HG.out.2]; exact gott_zero _ _ _⟩, ?_⟩
            have h7 : Sp w [blk r #[.int .i64 0, .int .i64 0, .int .i64 0, .slice none 0 0, .slice none 0 0] 71, row 3 1 (.slice ua k uc) k (qs ms), row 3 1 (.slice va k vc) k (rs ms), blk q #[.int .i64 (k : Nat), .int .i64 (T : Nat), .int .i64 E, .slice ua k uc, .slice va k vc] 71] w2 := H6.out
            exact (Sp.new5 h7).bel
          | true =>
            have p1 : (Lb.mk k T E st mr).put = (Lb.mk k T E st mr).sec := by unfold Lb.put; rw [hg]; rfl
            have p2 : (Lb.mk k T E st mr).putE = 0 := by unfold Lb.putE; rw [hg]; rfl
            rw [p1, p2] at HPUT
            by_cases hs : (Lb.mk k T E st mr).sec = by8 s
            · have hL : isLab (by8 s) = true := by unfold isLab; rw [hD, hg, decide_eq_true hs]; rfl
              rw [hs, bts_by8] at HPUT
              rw [hL] at hgE hgt
              have HPUT : Calls Tryz.prog 80 #[.agg #[.int .i64 (k : Nat), .int .i64 (T : Nat), .int .i64 E, .slice ua k uc, .slice va k vc]] wr _ := HPUT
              have HP := Lib.hid HPUT
              have HG := Lib.hid (And.intro hgE hgt)
              clear HPUT hgE hgt hL p1 p2 hg hD hs
              go_wp2_with fail
              refine HP.out.mono ?_
              rintro e w2 ⟨rfl, hb2⟩
              have h6 : Sp w [blk r z5 71, row 3 1 (.slice ua k uc) k (qs ms), row 3 1 (.slice va k vc) k (rs ms), blk q #[.int .i64 (k : Nat), .int .i64 (T : Nat), .int .i64 E, .slice ua k uc, .slice va k vc] 71] w2 := (H5.out.step hb2).front 3 rfl
              have hrb : Blk w2 r #[.int .i64 0, .int .i64 0, .int .i64 0, .slice none 0 0, .slice none 0 0] 71 := h6.blk (List.mem_cons_self ..)
              obtain ⟨⟨g0, g1, g2, g3, g4⟩, f0, f1, f2, f3, f4⟩ := five hrb
              have hq : Blk w2 q #[.int .i64 (k : Nat), .int .i64 (T : Nat), .int .i64 E, .slice ua k uc, .slice va k vc] 71 := h6.blk (List.mem_cons_of_mem _ (List.mem_cons_of_mem _ (List.mem_cons_of_mem _ (List.mem_cons_self ..))))
              obtain ⟨⟨e0, e1, e2, e3, e4⟩, _⟩ := five hq
              have h7 : Sp w [blk r #[.int .i64 0, .int .i64 0, .int .i64 0, .slice none 0 0, .slice none 0 0] 71, row 3 1 (.slice ua k uc) k (qs ms), row 3 1 (.slice va k vc) k (rs ms), blk q #[.int .i64 (k : Nat), .int .i64 (T : Nat), .int .i64 E, .slice ua k uc, .slice va k vc] 71] w2 := h6
              have H6 := Lib.hid h7
              have HRB := Lib.hid hrb
              clear h6 h7 hb2 hrb hq
              go_wp2
              have h8 := Sp.new5 (v0 := .int .i64 (k : Nat)) (v1 := .int .i64 (T : Nat)) (v2 := .int .i64 E) (v3 := .slice ua k uc) (v4 := .slice va k vc) H6.out
              refine rget_ret (Blk.set5 HRB.out _ _ _ _ _) _ _ _ ⟨⟨_, by rw [HG.out.1]; rfl, by rw [HG.out.2]; exact HROW.out _ _ _ _ _ _ h8⟩, h8.bel⟩
            · have hL : isLab (by8 s) = false := by unfold isLab; rw [hD, hg, decide_eq_false hs]; rfl
              obtain ⟨S, hS⟩ : ∃ S, S = bts (Lb.mk k T E st mr).sec := ⟨_, rfl⟩
              rw [← hS] at HPUT
              have hne : S ≠ s := fun e => hs (by
                have h := congrArg by8 e
                rw [hS, by8_bts _ (Lb.sec_lt _)] at h
                exact h)
              obtain ⟨hne1, hne2⟩ := App.toList_ne hne
              rw [hL] at hgE hgt
              have HPUT : Calls Tryz.prog 80 #[.agg #[.int .i64 (k : Nat), .int .i64 (T : Nat), .int .i64 E, .slice ua k uc, .slice va k vc]] wr _ := HPUT
              have HP := Lib.hid HPUT
              have HG := Lib.hid (And.intro hgE hgt)
              clear HPUT hgE hgt hL p1 p2 hg hD hs hS hne
              go_wp2_with fail
              refine HP.out.mono ?_
              rintro e w2 ⟨rfl, hb2⟩
              have h6 : Sp w [blk r z5 71, row 3 1 (.slice ua k uc) k (qs ms), row 3 1 (.slice va k vc) k (rs ms), blk q #[.int .i64 (k : Nat), .int .i64 (T : Nat), .int .i64 E, .slice ua k uc, .slice va k vc] 71] w2 := (H5.out.step hb2).front 3 rfl
              have hrb : Blk w2 r #[.int .i64 0, .int .i64 0, .int .i64 0, .slice none 0 0, .slice none 0 0] 71 := h6.blk (List.mem_cons_self ..)
              obtain ⟨⟨g0, g1, g2, g3, g4⟩, f0, f1, f2, f3, f4⟩ := five hrb
              have hq : Blk w2 q #[.int .i64 (k : Nat), .int .i64 (T : Nat), .int .i64 E, .slice ua k uc, .slice va k vc] 71 := h6.blk (List.mem_cons_of_mem _ (List.mem_cons_of_mem _ (List.mem_cons_of_mem _ (List.mem_cons_self ..))))
              obtain ⟨⟨e0, e1, e2, e3, e4⟩, _⟩ := five hq
              have h7 : Sp w [blk r #[.int .i64 0, .int .i64 0, .int .i64 0, .slice none 0 0, .slice none 0 0] 71, row 3 1 (.slice ua k uc) k (qs ms), row 3 1 (.slice va k vc) k (rs ms), blk q #[.int .i64 (k : Nat), .int .i64 (T : Nat), .int .i64 E, .slice ua k uc, .slice va k vc] 71] w2 := h6
              have H6 := Lib.hid h7
              have HRB := Lib.hid hrb
              clear h6 h7 hb2 hrb hq
              go_wp2
              refine rget_ret (Blk.set5 HRB.out _ _ _ _ _) _ _ _ ⟨⟨_, by rw [HG.out.1]; rfl, by rw [HG.out.2]; exact gott_zero _ _ _⟩, ?_⟩
              exact (Sp.new5 H6.out).bel
/-- The document's Get of every text. -/
theorem rget_own (s : ByteArray) (hs : s.size ≤ 9223372036854775807) (w : World) :
    Calls Tryz.prog 133 #[.string s] w fun e w' => (∃ v, e = .returned (.tuple #[v, .int .i64 (Lab.getE (by8 s))]) ∧ GotT 3 w w' v (Lab.get (by8 s))) ∧ Below w.heap.size w w' := by
  by_cases h1 : s.size ≠ 64 ∨ (by8 s).take 4 ≠ magic
  · have hE : Lab.getE (by8 s) = 4 := by unfold Lab.getE; rw [if_pos (by rw [by8_length]; exact h1)]
    have hG : Lab.get (by8 s) = Lb.zero := by unfold Lab.get; rw [hE]; rfl
    refine (rget_head s hs h1 w).mono fun e w' ⟨he, hb⟩ => ⟨⟨zlab, by rw [hE]; exact he, by rw [hG]; exact gott_zero _ _ _⟩, hb⟩
  · have h64 : s.size = 64 := by by_cases h : s.size = 64; exact h; exact (h1 (.inl h)).elim
    have hm : (by8 s).take 4 = magic := by by_cases h : (by8 s).take 4 = magic; exact h; exact (h1 (.inr h)).elim
    by_cases h2 : num (((by8 s).drop 46).take 4) = CrcA.sum ((by8 s).take 46)
    · by_cases h3 : (by8 s).getD 12 0 < 4 ∨ 32 < (by8 s).getD 12 0
      · have hgE := getE_main (by8 s) (by rw [by8_length]; exact h64) hm h2
        rw [not_lab h3] at hgE
        have hG : Lab.get (by8 s) = Lb.zero := by unfold Lab.get; rw [hgE]; rfl
        refine (rget_few s h64 hm h2 h3 w).mono fun e w' ⟨he, hb⟩ => ⟨⟨zlab, by rw [hgE]; exact he, by rw [hG]; exact gott_zero _ _ _⟩, hb⟩
      · exact rget_main s h64 hm h2 (by omega) (by omega) w
    · have hE : Lab.getE (by8 s) = 6 := by unfold Lab.getE; rw [if_neg (by rw [by8_length]; exact h1), if_pos h2]
      have hG : Lab.get (by8 s) = Lb.zero := by unfold Lab.get; rw [hE]; rfl
      refine (rget_sum s h64 hm h2 w).mono fun e w' ⟨he, hb⟩ => ⟨⟨zlab, by rw [hE]; exact he, by rw [hG]; exact gott_zero _ _ _⟩, hb⟩
theorem rget_calls (s : ByteArray) (hs : s.size ≤ 9223372036854775807) (w : World) :
    Calls Tryz.prog 133 #[.string s] w fun e w' => (∃ v, e = .returned (.tuple #[v, .int .i64 (Lab.getE (by8 s))]) ∧ GotN w w' v (Lab.get (by8 s))) ∧ Below w.heap.size w w' :=
  (rget_own s hs w).mono fun e w' ⟨⟨v, he, h⟩, hb⟩ => ⟨⟨v, he, h.gotn hb⟩, hb⟩
end Go.Proofs.YtbbhcmfkkkjehaaGreat.Lab
/- The newest label of sectors, walked: the program's and the document's. -/
namespace Go.Proofs.YtbbhcmfkkkjehaaGreat.Lab
open Go.RowKit Go.Proofs.YtbbhcmfkkkjehaaGreat.Mem Go.Proofs.YtbbhcmfkkkjehaaGreat.Sep Go.Proofs.YtbbhcmfkkkjehaaGreat.Num Go.Proofs.YtbbhcmfkkkjehaaGreat.B8 Go.Proofs.YtbbhcmfkkkjehaaGreat.CrcS
open Go.Proofs.YtbbhcmfkkkjehaaGreatW.PrintWords hiding bt
open Go.Proofs.YtbbhcmfkkkjehaaGreat.App
set_option linter.unusedVariables false
set_option linter.unusedSimpArgs false

def nstep (b : Lb) (s : List Nat) : Lb := if b.ep < (Lab.get s).ep then Lab.get s else b
def newest (l : List (List Nat)) : Lb := l.foldl nstep Lb.zero
theorem newest_take {l : List (List Nat)} {k : Nat} {s : List Nat} (h : l[k]? = some s) : newest (l.take (k + 1)) = nstep (newest (l.take k)) s := by
  unfold newest; rw [List.take_add_one, h, List.foldl_append]; rfl
theorem get_none {s : List Nat} (h : Lab.getE s ≠ 0) : Lab.get s = Lb.zero := by unfold Lab.get; rw [if_neg h]
theorem get_pos {s : List Nat} (h : Lab.getE s = 0) : 1 ≤ (Lab.get s).ep := by
  have h1 := (getE_zero h).2.2.2.1
  unfold Lab.get; rw [if_pos h]
  exact ((Lb.good_iff _).1 h1).e1
theorem get_nn (s : List Nat) : 0 ≤ (Lab.get s).ep := by
  by_cases h : Lab.getE s = 0
  · have := get_pos h; omega
  · rw [get_none h]; exact Int.le_refl 0
theorem newest_nn : ∀ (l : List (List Nat)) (b : Lb), 0 ≤ b.ep → 0 ≤ (l.foldl nstep b).ep
  | [], b, h => h
  | s :: l, b, h => newest_nn l _ (by unfold nstep; split; exact get_nn s; exact h)
/-- Texts in a row that can be read. -/
def Ss (w : World) (a : Option Addr) (L : List ByteArray) : Prop := ∀ (i : Nat) s, L[i]? = some s → ∃ p, a = some p ∧ w.cell? (p.add i) = some (.string s)
theorem Ss.step {w w' : World} {a : Option Addr} {L : List ByteArray} (h : Ss w a L) (k : Below w.heap.size w w') : Ss w' a L := fun i x hx => by
  obtain ⟨p, hp, hc⟩ := h i x hx
  exact ⟨p, hp, by rw [k.cell (World.block_lt_of_cell? _ _ hc)]; exact hc⟩
theorem Rw.far {w : World} {a : Option Addr} {L : List Int} (h : Rw w a L) {b : Nat} (hb : ∀ p, a = some p → p.block ≠ b) (o : Nat) (x : Value) : Rw (w.setCell ⟨b, o, none⟩ x) a L := fun i y hy => by
  obtain ⟨p, hp, hc⟩ := h i y hy
  refine ⟨p, hp, ?_⟩
  have hne : ((⟨b, o, none⟩ : Addr)).block ≠ (p.add i).block := fun e => hb p hp (by have e2 : b = (p.add i).block := e; rw [e2]; unfold Addr.add; split <;> rfl)
  rw [World.cell?_of_block (Below.heap_setCell w ⟨b, o, none⟩ x (p.add i).block (fun e => hne e.symm))]
  exact hc
theorem Rw.far5 {w : World} {a : Option Addr} {L : List Int} (h : Rw w a L) {b : Nat} (hb : ∀ p, a = some p → p.block ≠ b) (v0 v1 v2 v3 v4 : Value) :
    Rw (((((w.setCell ⟨b, 0, none⟩ v0).setCell ⟨b, 1, none⟩ v1).setCell ⟨b, 2, none⟩ v2).setCell ⟨b, 3, none⟩ v3).setCell ⟨b, 4, none⟩ v4) a L :=
  ((((h.far hb 0 v0).far hb 1 v1).far hb 2 v2).far hb 3 v3).far hb 4 v4
/-- The rows of the best one so far. -/
structure Rws (b : Lb) (a1 : Option Addr) (n1 : Nat) (a2 : Option Addr) (n2 q r : Nat) (w : World) : Prop where
  l1 : b.st.length = n1
  l2 : b.mr.length = n2
  s1 : n1 ≤ 100000
  s2 : n2 ≤ 100000
  r1 : Rw w a1 b.st
  r2 : Rw w a2 b.mr
  f1 : ∀ p, a1 = some p → p.block ≠ q ∧ p.block ≠ r
  f2 : ∀ p, a2 = some p → p.block ≠ q ∧ p.block ≠ r
theorem Rws.step {b : Lb} {a1 a2 : Option Addr} {n1 n2 q r : Nat} {w w' : World} (h : Rws b a1 n1 a2 n2 q r w) (k : Below w.heap.size w w') : Rws b a1 n1 a2 n2 q r w' := ⟨h.l1, h.l2, h.s1, h.s2, h.r1.step k, h.r2.step k, h.f1, h.f2⟩
attribute [local irreducible] vn bts big num CrcA.sum by8 newest nstep Lab.get Lab.getE
theorem newest_ret {W : World} {b : Nat} {v0 v1 v2 v3 v4 e : Value} {T : TypeId} (hb : Blk W b #[v0, v1, v2, v3, v4] T) {Q : Ending → World → Prop} (x0 x1 : Value) (r : List Value) (h : Q (.returned (.tuple #[.agg #[v0, v1, v2, v3, v4], e])) W) :
    bodyPost Tryz.prog Tryz.f116 Q Exit.ret { tmps := (x0 :: x1 :: .pointer (some ⟨b, 0, none⟩) :: e :: r).toArray, defers := [] } W := by
  obtain ⟨⟨c0, c1, c2, c3, c4⟩, _⟩ := five hb
  exact bodyPost_ret (v := .tuple #[.agg #[v0, v1, v2, v3, v4], e]) (by simp [results, Tryz.results116, go_sem, *]) rfl h
set_option maxHeartbeats 8000000 in
set_option maxRecDepth 100000 in
theorem newest_calls (L : List ByteArray) (hL : ∀ s ∈ L, s.size ≤ 9223372036854775807) (a : Option Addr) (n c : Nat) (hn : L.length = n) (hn1 : n ≤ 1000000) (w : World) (hs : Ss w a L) :
    Calls Tryz.prog 116 #[.slice a n c] w fun e w' => (∃ v, e = .returned (.tuple #[v, .bool (decide (0 < (newest (L.map by8)).ep))]) ∧ Got w' v (newest (L.map by8))) ∧ Below w.heap.size w w' := by
  obtain ⟨SL, hSL⟩ : ∃ SL, SL = L.map by8 := ⟨_, rfl⟩
  rw [← hSL]
  have HSL := Lib.hid hSL
  have HL := Lib.hid (And.intro hL (And.intro hn hs))
  have s1 := Sp.newAt (Sp.start w) #[.int .i64 0, .int .i64 0, .int .i64 0, .slice none 0 0, .slice none 0 0] 43 w.heap.size rfl
  have s2 := Sp.newAt s1 #[.int .i64 0, .int .i64 0, .int .i64 0, .slice none 0 0, .slice none 0 0] 43 (w.heap.size + 1) (by simp)
  have H2 := Lib.hid s2
  clear hSL hL hn hs s1 s2
  go_enter Tryz.func116, Tryz.ntmps116
  go_upto_region 2 with fail
  obtain ⟨r, hr⟩ : ∃ r, r = w.heap.size := ⟨_, rfl⟩
  obtain ⟨q, hq⟩ : ∃ q, q = w.heap.size + 1 := ⟨_, rfl⟩
  have h2 := H2.out
  rw [← hq, ← hr] at h2
  rw [← hq, ← hr]
  have H2 := Lib.hid h2
  clear h2 hr hq
  go_wp2
  go_loopw [11] (fun i wr => ∃ (k : Nat) (b : Lb) (a1 : Option Addr) (n1 c1 : Nat) (a2 : Option Addr) (n2 c2 : Nat), k ≤ n ∧ i = .int .i64 k ∧ Hid (b = newest (SL.take k)) ∧ Sp w [blk q #[.int .i64 b.m, .int .i64 b.t, .int .i64 b.ep, .slice a1 n1 c1, .slice a2 n2 c2] 43, blk r #[.int .i64 0, .int .i64 0, .int .i64 0, .slice none 0 0, .slice none 0 0] 43] wr ∧ Hid (Rws b a1 n1 a2 n2 q r wr)) (fun i _ => n - (intOf i).toNat)
  case atStart => exact ⟨0, Lb.zero, none, 0, 0, none, 0, 0, Nat.zero_le _, rfl, Lib.hid (by rw [List.take_zero]; unfold newest; rfl), H2.out, Lib.hid ⟨rfl, rfl, by decide, by decide, Rw.nil _ _, Rw.nil _ _, fun p hp => (by cases hp), fun p hp => (by cases hp)⟩⟩
  case round =>
    clear H2
    obtain ⟨k, b, a1, n1, c1, a2, n2, c2, hk, rfl, HB, h5, HR⟩ := hrel
    by_cases hlt : k < n
    · have dlt : decide ((k : Int) < (n : Int)) = true := decide_eq_true (by omega)
      have i0 : (0 : Int) ≤ (k : Int) := by omega
      have i1 : (k : Int) < (n : Int) := by omega
      obtain ⟨s, hs⟩ : ∃ s, L[k]? = some s := ⟨_, List.getElem?_eq_getElem (by rw [HL.out.2.1]; exact hlt)⟩
      obtain ⟨p, hp, hc⟩ := HL.out.2.2 k s hs
      subst hp
      have cx : wr.cell? (p.add k) = some (.string s) := by rw [h5.bel.cell (World.block_lt_of_cell? _ _ hc)]; exact hc
      have HG := Lib.hid (get_calls s (HL.out.1 s (List.mem_of_getElem? hs)) wr)
      have hsl : SL[k]? = some (by8 s) := by rw [HSL.out, List.getElem?_map, hs]; rfl
      have hb0 : 0 ≤ b.ep := by rw [HB.out]; unfold newest; exact newest_nn _ _ (Int.le_refl 0)
      have hnx := newest_take hsl
      rw [← HB.out] at hnx
      unfold nstep at hnx
      have hN : ∀ h : Lab.getE (by8 s) ≠ 0, Lab.get (by8 s) = Lb.zero := get_none
      have hP : ∀ h : Lab.getE (by8 s) = 0, 1 ≤ (Lab.get (by8 s)).ep := get_pos
      obtain ⟨E, hE⟩ : ∃ E, E = Lab.getE (by8 s) := ⟨_, rfl⟩
      obtain ⟨g, hg⟩ : ∃ g, g = Lab.get (by8 s) := ⟨_, rfl⟩
      rw [← hE, ← hg] at HG
      rw [← hg] at hnx hN hP
      rw [← hE] at hN hP
      obtain ⟨gm, gt, ge, gst, gmr⟩ := g
      have HNX := Lib.hid (And.intro hnx (And.intro hN hP))
      have H5 := Lib.hid h5
      clear hs hc hsl hnx hE hg hN hP h5
      go_wp2_with fail
      refine HG.out.mono ?_
      rintro e w2 ⟨⟨v, rfl, hgn⟩, hbel⟩
      obtain ⟨x1, m1, d1, x2, m2, d2, rfl, hl1, hl2, hm1, hm2, hr1, hr2, hf1, hf2⟩ := hgn
      unfold lval
      dsimp only
      have hq5 := H5.out.blk (b := q) (C := #[.int .i64 b.m, .int .i64 b.t, .int .i64 b.ep, .slice a1 n1 c1, .slice a2 n2 c2]) (T := 43) (List.mem_cons_self ..)
      have hr5 := H5.out.blk (b := r) (C := #[.int .i64 0, .int .i64 0, .int .i64 0, .slice none 0 0, .slice none 0 0]) (T := 43) (List.mem_cons_of_mem _ (List.mem_cons_self ..))
      have HF := Lib.hid (And.intro hl1 (And.intro hl2 (And.intro hm1 (And.intro hm2 (And.intro hr1 (And.intro hr2 (And.intro (fun (p : Addr) (hp : x1 = some p) => (⟨by have := hf1 p hp; have := hq5.lt; omega, by have := hf1 p hp; have := hr5.lt; omega⟩ : p.block ≠ q ∧ p.block ≠ r)) (fun (p : Addr) (hp : x2 = some p) => (⟨by have := hf2 p hp; have := hq5.lt; omega, by have := hf2 p hp; have := hr5.lt; omega⟩ : p.block ≠ q ∧ p.block ≠ r)))))))))
      have h6 := (H5.out.step hbel).any (.cells #[.int .i64 gm, .int .i64 gt, .int .i64 ge, .slice x1 m1 d1, .slice x2 m2 d2] 43)
      have h6 : Sp w [blk q #[.int .i64 b.m, .int .i64 b.t, .int .i64 b.ep, .slice a1 n1 c1, .slice a2 n2 c2] 43, blk r #[.int .i64 0, .int .i64 0, .int .i64 0, .slice none 0 0, .slice none 0 0] 43] (w2.alloc (.cells #[.int .i64 gm, .int .i64 gt, .int .i64 ge, .slice x1 m1 d1, .slice x2 m2 d2] 43)) := h6
      have HRS := Lib.hid (HR.out.step (ba hbel (.cells #[.int .i64 gm, .int .i64 gt, .int .i64 ge, .slice x1 m1 d1, .slice x2 m2 d2] 43)))
      have hb6 := h6.blk (b := q) (C := #[.int .i64 b.m, .int .i64 b.t, .int .i64 b.ep, .slice a1 n1 c1, .slice a2 n2 c2]) (T := 43) (List.mem_cons_self ..)
      have hb2 := hq5.below hbel hq5.lt
      obtain ⟨⟨q0, q1, q2, q3, q4⟩, y0, y1, y2, y3, y4⟩ := five hb6
      have q2' : w2.cell? ⟨q, 2, none⟩ = some (.int .i64 b.ep) := hb2.cell 2
      have H6 := Lib.hid h6
      clear hl1 hl2 hm1 hm2 hr1 hr2 hf1 hf2 hq5 hr5 h6 hb6 hb2 hbel HG H5
      by_cases hE : E = 0
      · subst hE
        have h1e := HNX.out.2.2 rfl
        have h1e : 1 ≤ ge := h1e
        by_cases hb : b.ep < ge
        · have db : decide (b.ep < ge) = true := decide_eq_true hb
          have h7 := Sp.new5 (v0 := .int .i64 gm) (v1 := .int .i64 gt) (v2 := .int .i64 ge) (v3 := .slice x1 m1 d1) (v4 := .slice x2 m2 d2) H6.out
          have H7 := Lib.hid h7
          clear h7
          go_wp2
          go_roundw
          case measure => simp [intOf]; omega
          case rel =>
            refine ⟨k + 1, ⟨gm, gt, ge, gst, gmr⟩, x1, m1, d1, x2, m2, d2, by omega, by go_num, Lib.hid (by rw [HNX.out.1]; exact (if_pos (by show b.ep < ge; omega)).symm), H7.out, Lib.hid ?_⟩
            obtain ⟨f1, f2, f3, f4, f5, f6, f7, f8⟩ := HF.out
            exact ⟨f1, f2, f3, f4, (f5.step (ba (br _) _)).far5 (fun p hp => (f7 p hp).1) _ _ _ _ _, (f6.step (ba (br _) _)).far5 (fun p hp => (f8 p hp).1) _ _ _ _ _, f7, f8⟩
        · have db : decide (b.ep < ge) = false := decide_eq_false hb
          go_wp2
          go_roundw
          case measure => simp [intOf]; omega
          case rel => exact ⟨k + 1, b, a1, n1, c1, a2, n2, c2, by omega, by go_num, Lib.hid (by rw [HNX.out.1]; exact (if_neg (by show ¬ b.ep < ge; omega)).symm), H6.out, HRS⟩
      · have hz := HNX.out.2.1 hE
        have hz : ge = 0 := congrArg Lb.ep hz
        have zE : (E == 0) = false := beq_eq_false_iff_ne.2 hE
        subst hz
        go_wp2
        go_roundw
        case measure => simp [intOf]; omega
        case rel => exact ⟨k + 1, b, a1, n1, c1, a2, n2, c2, by omega, by go_num, Lib.hid (by rw [HNX.out.1]; exact (if_neg (by show ¬ b.ep < (0 : Int); omega)).symm), H6.out, HRS⟩
    · obtain rfl : k = n := by omega
      have dlt : decide ((k : Int) < (k : Int)) = false := decide_eq_false (by omega)
      have hbn : b = newest SL := by rw [HB.out, List.take_of_length_le (by rw [HSL.out, List.length_map, HL.out.2.1]; exact Nat.le_refl _)]
      have HBN := Lib.hid hbn
      obtain ⟨⟨q0, q1, q2, q3, q4⟩, _⟩ := five (h5.blk (b := q) (C := #[.int .i64 b.m, .int .i64 b.t, .int .i64 b.ep, .slice a1 n1 c1, .slice a2 n2 c2]) (T := 43) (List.mem_cons_self ..))
      obtain ⟨⟨r0, r1, r2, r3, r4⟩, y0, y1, y2, y3, y4⟩ := five (h5.blk (b := r) (C := #[.int .i64 0, .int .i64 0, .int .i64 0, .slice none 0 0, .slice none 0 0]) (T := 43) (List.mem_cons_of_mem _ (List.mem_cons_self ..)))
      have hne : q ≠ r := h5.ne (c := r) (D := #[.int .i64 0, .int .i64 0, .int .i64 0, .slice none 0 0, .slice none 0 0]) (U := 43) (List.mem_cons_self ..)
      have hne2 : r ≠ q := fun e => hne e.symm
      have h6 := h5.front 1 rfl
      have h6 : Sp w [blk r #[.int .i64 0, .int .i64 0, .int .i64 0, .slice none 0 0, .slice none 0 0] 43, blk q #[.int .i64 b.m, .int .i64 b.t, .int .i64 b.ep, .slice a1 n1 c1, .slice a2 n2 c2] 43] wr := h6
      have H7 := Lib.hid (Sp.new5 (v0 := .int .i64 b.m) (v1 := .int .i64 b.t) (v2 := .int .i64 b.ep) (v3 := .slice a1 n1 c1) (v4 := .slice a2 n2 c2) h6)
      clear h5 h6 hbn
      go_wp2
      go_region
      all_goals go_wp2
      all_goals (
        have h8 := H7.out.drew
        refine newest_ret (h8.blk (List.mem_cons_self ..)) _ _ _ ⟨⟨_, by rw [← HBN.out], ?_⟩, h8.bel⟩
        rw [← HBN.out]
        obtain ⟨f1, f2, f3, f4, f5, f6, f7, f8⟩ := HR.out
        exact ⟨a1, n1, c1, a2, n2, c2, rfl, f1, f2, f3, f4, (f5.far5 (fun p hp => (f7 p hp).2) _ _ _ _ _).step (bd1 (br _)), (f6.far5 (fun p hp => (f8 p hp).2) _ _ _ _ _).step (bd1 (br _))⟩)
theorem rnewest_ret {W : World} {b : Nat} {v0 v1 v2 v3 v4 e : Value} {T : TypeId} (hb : Blk W b #[v0, v1, v2, v3, v4] T) {Q : Ending → World → Prop} (x0 x1 : Value) (r : List Value) (h : Q (.returned (.tuple #[.agg #[v0, v1, v2, v3, v4], e])) W) :
    bodyPost Tryz.prog Tryz.f83 Q Exit.ret { tmps := (x0 :: x1 :: .pointer (some ⟨b, 0, none⟩) :: e :: r).toArray, defers := [] } W := by
  obtain ⟨⟨c0, c1, c2, c3, c4⟩, _⟩ := five hb
  exact bodyPost_ret (v := .tuple #[.agg #[v0, v1, v2, v3, v4], e]) (by simp [results, Tryz.results83, go_sem, *]) rfl h
set_option maxHeartbeats 8000000 in
set_option maxRecDepth 100000 in
theorem rnewest_calls (L : List ByteArray) (hL : ∀ s ∈ L, s.size ≤ 9223372036854775807) (a : Option Addr) (n c : Nat) (hn : L.length = n) (hn1 : n ≤ 1000000) (w : World) (hs : Ss w a L) :
    Calls Tryz.prog 83 #[.slice a n c] w fun e w' => (∃ v, e = .returned (.tuple #[v, .bool (decide (0 < (newest (L.map by8)).ep))]) ∧ Got w' v (newest (L.map by8))) ∧ Below w.heap.size w w' := by
  obtain ⟨SL, hSL⟩ : ∃ SL, SL = L.map by8 := ⟨_, rfl⟩
  rw [← hSL]
  have HSL := Lib.hid hSL
  have HL := Lib.hid (And.intro hL (And.intro hn hs))
  have s1 := Sp.newAt (Sp.start w) #[.int .i64 0, .int .i64 0, .int .i64 0, .slice none 0 0, .slice none 0 0] 71 w.heap.size rfl
  have s2 := Sp.newAt s1 #[.int .i64 0, .int .i64 0, .int .i64 0, .slice none 0 0, .slice none 0 0] 71 (w.heap.size + 1) (by simp)
  have H2 := Lib.hid s2
  clear hSL hL hn hs s1 s2
  go_enter Tryz.func83, Tryz.ntmps83
  go_upto_region 2 with fail
  obtain ⟨r, hr⟩ : ∃ r, r = w.heap.size := ⟨_, rfl⟩
  obtain ⟨q, hq⟩ : ∃ q, q = w.heap.size + 1 := ⟨_, rfl⟩
  have h2 := H2.out
  rw [← hq, ← hr] at h2
  rw [← hq, ← hr]
  have H2 := Lib.hid h2
  clear h2 hr hq
  go_wp2
  go_loopw [5, 6] (fun x5 i wr => ∃ (k : Nat) (b : Lb) (a1 : Option Addr) (n1 c1 : Nat) (a2 : Option Addr) (n2 c2 : Nat), k ≤ n ∧ i = .int .i64 k ∧ x5 = .bool (decide (0 < b.ep)) ∧ Hid (b = newest (SL.take k)) ∧ Sp w [blk q #[.int .i64 b.m, .int .i64 b.t, .int .i64 b.ep, .slice a1 n1 c1, .slice a2 n2 c2] 71, blk r #[.int .i64 0, .int .i64 0, .int .i64 0, .slice none 0 0, .slice none 0 0] 71] wr ∧ Hid (Rws b a1 n1 a2 n2 q r wr)) (fun _ i _ => n - (intOf i).toNat)
  case atStart => exact ⟨0, Lb.zero, none, 0, 0, none, 0, 0, Nat.zero_le _, rfl, rfl, Lib.hid (by rw [List.take_zero]; unfold newest; rfl), H2.out, Lib.hid ⟨rfl, rfl, by decide, by decide, Rw.nil _ _, Rw.nil _ _, fun p hp => (by cases hp), fun p hp => (by cases hp)⟩⟩
  case round =>
    clear H2
    obtain ⟨k, b, a1, n1, c1, a2, n2, c2, hk, rfl, rfl, HB, h5, HR⟩ := hrel
    by_cases hlt : k < n
    · have dlt : decide ((k : Int) < (n : Int)) = true := decide_eq_true (by omega)
      have i0 : (0 : Int) ≤ (k : Int) := by omega
      have i1 : (k : Int) < (n : Int) := by omega
      obtain ⟨s, hs⟩ : ∃ s, L[k]? = some s := ⟨_, List.getElem?_eq_getElem (by rw [HL.out.2.1]; exact hlt)⟩
      obtain ⟨p, hp, hc⟩ := HL.out.2.2 k s hs
      subst hp
      have cx : wr.cell? (p.add k) = some (.string s) := by rw [h5.bel.cell (World.block_lt_of_cell? _ _ hc)]; exact hc
      have HG := Lib.hid (rget_calls s (HL.out.1 s (List.mem_of_getElem? hs)) wr)
      have hsl : SL[k]? = some (by8 s) := by rw [HSL.out, List.getElem?_map, hs]; rfl
      have hb0 : 0 ≤ b.ep := by rw [HB.out]; unfold newest; exact newest_nn _ _ (Int.le_refl 0)
      have hnx := newest_take hsl
      rw [← HB.out] at hnx
      unfold nstep at hnx
      have hN : ∀ h : Lab.getE (by8 s) ≠ 0, Lab.get (by8 s) = Lb.zero := get_none
      have hP : ∀ h : Lab.getE (by8 s) = 0, 1 ≤ (Lab.get (by8 s)).ep := get_pos
      obtain ⟨E, hE⟩ : ∃ E, E = Lab.getE (by8 s) := ⟨_, rfl⟩
      obtain ⟨g, hg⟩ : ∃ g, g = Lab.get (by8 s) := ⟨_, rfl⟩
      rw [← hE, ← hg] at HG
      rw [← hg] at hnx hN hP
      rw [← hE] at hN hP
      obtain ⟨gm, gt, ge, gst, gmr⟩ := g
      have HNX := Lib.hid (And.intro hnx (And.intro hN hP))
      have H5 := Lib.hid h5
      clear hs hc hsl hnx hE hg hN hP h5
      go_wp2_with fail
      refine HG.out.mono ?_
      rintro e w2 ⟨⟨v, rfl, hgn⟩, hbel⟩
      obtain ⟨x1, m1, d1, x2, m2, d2, rfl, hl1, hl2, hm1, hm2, hr1, hr2, hf1, hf2⟩ := hgn
      unfold lval
      dsimp only
      have hq5 := H5.out.blk (b := q) (C := #[.int .i64 b.m, .int .i64 b.t, .int .i64 b.ep, .slice a1 n1 c1, .slice a2 n2 c2]) (T := 71) (List.mem_cons_self ..)
      have hr5 := H5.out.blk (b := r) (C := #[.int .i64 0, .int .i64 0, .int .i64 0, .slice none 0 0, .slice none 0 0]) (T := 71) (List.mem_cons_of_mem _ (List.mem_cons_self ..))
      have HF := Lib.hid (And.intro hl1 (And.intro hl2 (And.intro hm1 (And.intro hm2 (And.intro hr1 (And.intro hr2 (And.intro (fun (p : Addr) (hp : x1 = some p) => (⟨by have := hf1 p hp; have := hq5.lt; omega, by have := hf1 p hp; have := hr5.lt; omega⟩ : p.block ≠ q ∧ p.block ≠ r)) (fun (p : Addr) (hp : x2 = some p) => (⟨by have := hf2 p hp; have := hq5.lt; omega, by have := hf2 p hp; have := hr5.lt; omega⟩ : p.block ≠ q ∧ p.block ≠ r)))))))))
      have h6 := (H5.out.step hbel).any (.cells #[.int .i64 gm, .int .i64 gt, .int .i64 ge, .slice x1 m1 d1, .slice x2 m2 d2] 71)
      have h6 : Sp w [blk q #[.int .i64 b.m, .int .i64 b.t, .int .i64 b.ep, .slice a1 n1 c1, .slice a2 n2 c2] 71, blk r #[.int .i64 0, .int .i64 0, .int .i64 0, .slice none 0 0, .slice none 0 0] 71] (w2.alloc (.cells #[.int .i64 gm, .int .i64 gt, .int .i64 ge, .slice x1 m1 d1, .slice x2 m2 d2] 71)) := h6
      have HRS := Lib.hid (HR.out.step (ba hbel (.cells #[.int .i64 gm, .int .i64 gt, .int .i64 ge, .slice x1 m1 d1, .slice x2 m2 d2] 71)))
      have hb6 := h6.blk (b := q) (C := #[.int .i64 b.m, .int .i64 b.t, .int .i64 b.ep, .slice a1 n1 c1, .slice a2 n2 c2]) (T := 71) (List.mem_cons_self ..)
      have hb2 := hq5.below hbel hq5.lt
      obtain ⟨⟨q0, q1, q2, q3, q4⟩, y0, y1, y2, y3, y4⟩ := five hb6
      have q2' : w2.cell? ⟨q, 2, none⟩ = some (.int .i64 b.ep) := hb2.cell 2
      have H6 := Lib.hid h6
      clear hl1 hl2 hm1 hm2 hr1 hr2 hf1 hf2 hq5 hr5 h6 hb6 hb2 hbel HG H5
      by_cases hE : E = 0
      · subst hE
        have h1e := HNX.out.2.2 rfl
        have h1e : 1 ≤ ge := h1e
        by_cases hb : b.ep < ge
        · have db : decide (b.ep < ge) = true := decide_eq_true hb
          by_cases h0 : 0 < b.ep
          · have d0 : decide (0 < b.ep) = true := decide_eq_true h0
            rw [d0]
            have h7 := Sp.new5 (v0 := .int .i64 gm) (v1 := .int .i64 gt) (v2 := .int .i64 ge) (v3 := .slice x1 m1 d1) (v4 := .slice x2 m2 d2) H6.out
            have H7 := Lib.hid h7
            clear h7
            go_wp2
            go_roundw
            case measure => simp [intOf]; omega
            case rel =>
              refine ⟨k + 1, ⟨gm, gt, ge, gst, gmr⟩, x1, m1, d1, x2, m2, d2, by omega, by go_num, by rw [decide_eq_true (show (0 : Int) < ge by omega)], Lib.hid (by rw [HNX.out.1]; exact (if_pos (by show b.ep < ge; omega)).symm), H7.out, Lib.hid ?_⟩
              obtain ⟨f1, f2, f3, f4, f5, f6, f7, f8⟩ := HF.out
              exact ⟨f1, f2, f3, f4, (f5.step (ba (br _) _)).far5 (fun p hp => (f7 p hp).1) _ _ _ _ _, (f6.step (ba (br _) _)).far5 (fun p hp => (f8 p hp).1) _ _ _ _ _, f7, f8⟩
          · have d0 : decide (0 < b.ep) = false := decide_eq_false h0
            rw [d0]
            have h7 := Sp.new5 (v0 := .int .i64 gm) (v1 := .int .i64 gt) (v2 := .int .i64 ge) (v3 := .slice x1 m1 d1) (v4 := .slice x2 m2 d2) H6.out
            have H7 := Lib.hid h7
            clear h7
            go_wp2
            go_roundw
            case measure => simp [intOf]; omega
            case rel =>
              refine ⟨k + 1, ⟨gm, gt, ge, gst, gmr⟩, x1, m1, d1, x2, m2, d2, by omega, by go_num, by rw [decide_eq_true (show (0 : Int) < ge by omega)], Lib.hid (by rw [HNX.out.1]; exact (if_pos (by show b.ep < ge; omega)).symm), H7.out, Lib.hid ?_⟩
              obtain ⟨f1, f2, f3, f4, f5, f6, f7, f8⟩ := HF.out
              exact ⟨f1, f2, f3, f4, (f5.step (ba (br _) _)).far5 (fun p hp => (f7 p hp).1) _ _ _ _ _, (f6.step (ba (br _) _)).far5 (fun p hp => (f8 p hp).1) _ _ _ _ _, f7, f8⟩
        · have db : decide (b.ep < ge) = false := decide_eq_false hb
          have d0 : decide (0 < b.ep) = true := decide_eq_true (by omega)
          rw [d0]
          go_wp2
          go_roundw
          case measure => simp [intOf]; omega
          case rel => exact ⟨k + 1, b, a1, n1, c1, a2, n2, c2, by omega, by go_num, by rw [d0], Lib.hid (by rw [HNX.out.1]; exact (if_neg (by show ¬ b.ep < ge; omega)).symm), H6.out, HRS⟩
      · have hz := HNX.out.2.1 hE
        have hz : ge = 0 := congrArg Lb.ep hz
        have zE : (E == 0) = false := beq_eq_false_iff_ne.2 hE
        subst hz
        go_wp2
        go_roundw
        case measure => simp [intOf]; omega
        case rel => exact ⟨k + 1, b, a1, n1, c1, a2, n2, c2, by omega, by go_num, rfl, Lib.hid (by rw [HNX.out.1]; exact (if_neg (by show ¬ b.ep < (0 : Int); omega)).symm), H6.out, HRS⟩
    · obtain rfl : k = n := by omega
      have dlt : decide ((k : Int) < (k : Int)) = false := decide_eq_false (by omega)
      have hbn : b = newest SL := by rw [HB.out, List.take_of_length_le (by rw [HSL.out, List.length_map, HL.out.2.1]; exact Nat.le_refl _)]
      have HBN := Lib.hid hbn
      obtain ⟨⟨q0, q1, q2, q3, q4⟩, _⟩ := five (h5.blk (b := q) (C := #[.int .i64 b.m, .int .i64 b.t, .int .i64 b.ep, .slice a1 n1 c1, .slice a2 n2 c2]) (T := 71) (List.mem_cons_self ..))
      obtain ⟨⟨r0, r1, r2, r3, r4⟩, y0, y1, y2, y3, y4⟩ := five (h5.blk (b := r) (C := #[.int .i64 0, .int .i64 0, .int .i64 0, .slice none 0 0, .slice none 0 0]) (T := 71) (List.mem_cons_of_mem _ (List.mem_cons_self ..)))
      have hne : q ≠ r := h5.ne (c := r) (D := #[.int .i64 0, .int .i64 0, .int .i64 0, .slice none 0 0, .slice none 0 0]) (U := 71) (List.mem_cons_self ..)
      have hne2 : r ≠ q := fun e => hne e.symm
      have h6 := h5.front 1 rfl
      have h6 : Sp w [blk r #[.int .i64 0, .int .i64 0, .int .i64 0, .slice none 0 0, .slice none 0 0] 71, blk q #[.int .i64 b.m, .int .i64 b.t, .int .i64 b.ep, .slice a1 n1 c1, .slice a2 n2 c2] 71] wr := h6
      have H7 := Lib.hid (Sp.new5 (v0 := .int .i64 b.m) (v1 := .int .i64 b.t) (v2 := .int .i64 b.ep) (v3 := .slice a1 n1 c1) (v4 := .slice a2 n2 c2) h6)
      clear h5 h6 hbn
      go_wp2
      have h8 := H7.out
      refine rnewest_ret (h8.blk (List.mem_cons_self ..)) _ _ _ ⟨⟨_, by rw [← HBN.out], ?_⟩, h8.bel⟩
      rw [← HBN.out]
      obtain ⟨f1, f2, f3, f4, f5, f6, f7, f8⟩ := HR.out
      exact ⟨a1, n1, c1, a2, n2, c2, rfl, f1, f2, f3, f4, f5.far5 (fun p hp => (f7 p hp).2) _ _ _ _ _, f6.far5 (fun p hp => (f8 p hp).2) _ _ _ _ _⟩
end Go.Proofs.YtbbhcmfkkkjehaaGreat.Lab
