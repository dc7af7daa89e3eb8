/- A region that draws its order and holds two appends, each stored where its slice was read: whatever the order, both are done. No program is named here. -/
import Derived.Test.YtmpbohbecidkhaaApp
import Derived.OrdersHeld
import Derived.Deep.RegionHeld3
namespace Go.Proofs.Ytmpbohbecidkhaa.PairR
open Go.RowKit Go.Proofs.Ytmpbohbecidkhaa.Mem Go.Proofs.Ytmpbohbecidkhaa.Sep
set_option linter.unusedVariables false
set_option linter.unusedSimpArgs false

/-- How far one of the two has come: its load (l), what it builds (b), its append (a), its store (s). -/
inductive Pg where
  | o | l | b | lb | a | f | s
def Pg.all : List Pg := [.o, .l, .b, .lb, .a, .f, .s]
def Pg.done : Pg → Bool
  | .s => true
  | _ => false
structure Chain where
  iL : Nat
  iB : Nat
  iA : Nat
  iF : Nat
  iS : Nat
def Chain.bits (c : Chain) (l : Array Bool) : Pg → Array Bool
  | .o => l
  | .l => l.setIfInBounds c.iL true
  | .b => l.setIfInBounds c.iB true
  | .lb => (l.setIfInBounds c.iL true).setIfInBounds c.iB true
  | .a => ((l.setIfInBounds c.iL true).setIfInBounds c.iB true).setIfInBounds c.iA true
  | .f => (((l.setIfInBounds c.iL true).setIfInBounds c.iB true).setIfInBounds c.iA true).setIfInBounds c.iF true
  | .s => ((((l.setIfInBounds c.iL true).setIfInBounds c.iB true).setIfInBounds c.iA true).setIfInBounds c.iF true).setIfInBounds c.iS true
/-- What comes of it if operation i comes up. -/
def Chain.move (c : Chain) (i : Nat) : Pg → Option Pg
  | .o => if i = c.iL then some .l else if i = c.iB then some .b else none
  | .l => if i = c.iB then some .lb else none
  | .b => if i = c.iL then some .lb else none
  | .lb => if i = c.iA then some .a else none
  | .a => if i = c.iF then some .f else none
  | .f => if i = c.iS then some .s else none
  | .s => none
def tab (c1 c2 : Chain) (base : Array Bool) (p1 p2 : Pg) : Array Bool := c2.bits (c1.bits base p1) p2
def left : Pg → Nat
  | .o => 5
  | .l => 4
  | .b => 4
  | .lb => 3
  | .a => 2
  | .f => 1
  | .s => 0
def checkAt (md : Region.Mode) (ops : Array Oper) (base : Array Bool) (c1 c2 : Chain) (p1 p2 : Pg) : Bool :=
  ((Region.ready md ops (tab c1 c2 base p1 p2)).all fun i => match c1.move i p1 with
    | some p => decide ((tab c1 c2 base p1 p2).setIfInBounds i true = tab c1 c2 base p p2)
    | none => match c2.move i p2 with
      | some p => decide ((tab c1 c2 base p1 p2).setIfInBounds i true = tab c1 c2 base p1 p)
      | none => false) && (!(Region.ready md ops (tab c1 c2 base p1 p2)).isEmpty || (p1.done && p2.done)) && (!(p1.done && p2.done) || (Region.ready md ops (tab c1 c2 base p1 p2)).isEmpty)
def check (md : Region.Mode) (ops : Array Oper) (base : Array Bool) (c1 c2 : Chain) : Bool := Pg.all.all fun p1 => Pg.all.all fun p2 => checkAt md ops base c1 c2 p1 p2
theorem check_at {md : Region.Mode} {ops : Array Oper} {base : Array Bool} {c1 c2 : Chain} (h : check md ops base c1 c2 = true) (p1 p2 : Pg) : checkAt md ops base c1 c2 p1 p2 = true := by
  have h1 := List.all_eq_true.1 h p1 (by cases p1 <;> simp [Pg.all])
  exact List.all_eq_true.1 h1 p2 (by cases p2 <;> simp [Pg.all])

theorem op_append {P : Program} {ops : Array Oper} {Q : Exit → Act → World → Prop} {i : Nat} {o : Oper} {a : Act} {w w' : World} {K : Act → World → Prop} {vs vx v' : Value} (hi : ops[i]? = some o) (hgd : o.guard = none) (s x : Operand) (t : TypeId)
    (ho : o.op = .call { callee := .builtin .append, args := #[s, x], argTypes := #[t, t] }) (hs : a.eval s = vs) (hx : a.eval x = vx) (hr : (Builtin.append_ #[t, t] o.type #[vs, vx]).run P w = .ok v' w') (h : K (a.put o.dst v') w') : wpOp P ops Q i K a w := by
  refine wpOp_step hi (fun K' hK' => ?_)
  have hw : Region.wanted o (yielded ops a.tmps) = true := by simp [Region.wanted, hgd]
  rw [if_pos hw]
  unfold Oper.wp execOp
  simp only [ho, resolve, invoke, builtin, Sem.run_bind, Sem.run_pure, Result.andThen_ok, List.map_toArray, List.map_cons, List.map_nil, hs, hx, hr]
  exact hK' _ _ h
/-- An operation that yields in every world that meets S, taken first: its slot is named. -/
theorem take {P : Program} {md : Region.Mode} {ops : Array Oper} {Q : Exit → Act → World → Prop} {S : World → Prop} {oi : Oper} {fuel : Nat} {listed : Array Bool} {a : Act} {w : World} (i d : Nat) (v : Value) (hi : ops[i]? = some oi) (hd : oi.dst = some d)
    (hs : Region.noSelect ops = true) (hf : Region.free md ops listed i = true) (hr : (Region.ready md ops listed).contains i = true)
    (hQ : ∀ c a w, Q (.panic c) (a.put oi.dst v) w → Q (.panic c) a w) (hw : Region.wanted oi (yielded ops a.tmps) = true) (hy : ∀ w, S w → (execOp a.eval oi).run P w = .ok (.value v) w) (hS : S w)
    (h : wpAnyH P md ops Q S fuel (listed.setIfInBounds i true) (a.put (some d) v) w) : wpAnyH P md ops Q S (fuel + 1) listed a w :=
  wpAnyH_take hi hs hf hr hQ (Or.inl ⟨hw, hy⟩) hS (by rw [hd]; exact h)
/-- One of the two: what its operations do, whatever the other one has done. G: the frame, by what stands in the slots of the load, of what is built, of the append. -/
structure ChOk (P : Program) (ops : Array Oper) (Q : Exit → Act → World → Prop) (c : Chain) (G : Value → Value → Value → Value → Act) (q off : Nat) (u : Value) (X : Array Value) (U t ty : TypeId) : Prop where
  L : ∀ y1 y2 y3 y4 w K, w.cell? ⟨q, off, none⟩ = some u → K (G u y2 y3 y4) w → wpOp P ops Q c.iL K (G y1 y2 y3 y4) w
  B : ∀ y1 y2 y3 y4 w K, K (G y1 (.slice (some ⟨w.heap.size, 0, none⟩) 1 1) y3 y4) (w.alloc (.cells X U)) → wpOp P ops Q c.iB K (G y1 y2 y3 y4) w
  A : ∀ y3 y4 g w v' w' K, (Builtin.append_ #[t, t] ty #[u, .slice (some ⟨g, 0, none⟩) 1 1]).run P w = .ok v' w' → K (G u (.slice (some ⟨g, 0, none⟩) 1 1) v' y4) w' → wpOp P ops Q c.iA K (G u (.slice (some ⟨g, 0, none⟩) 1 1) y3 y4) w
  F : ∀ y1 y2 y3 y4 w K, K (G y1 y2 y3 (.pointer (some ⟨q, off, none⟩))) w → wpOp P ops Q c.iF K (G y1 y2 y3 y4) w
  S : ∀ y1 y2 z n cap w old K, w.cell? ⟨q, off, none⟩ = some old → w.frozen? ⟨q, off, none⟩ = false → K (G y1 y2 (.slice z n cap) (.pointer (some ⟨q, off, none⟩))) (w.setCell ⟨q, off, none⟩ (.slice z n cap)) → wpOp P ops Q c.iS K (G y1 y2 (.slice z n cap) (.pointer (some ⟨q, off, none⟩))) w

/-- What is owned, and what the slots hold, when it has come so far. -/
def St (e : TypeId) (size : Nat) (u : Value) (n : Nat) (xs : List Value) (q off : Nat) (C : Array Value) (T : TypeId) (X : Array Value) (U : TypeId) (y1 y2 y3 y4 : Value) (w0 w : World) (M : List Asn) : Pg → Prop
  | .o => Sp w0 (row e size u n xs :: blk q C T :: M) w
  | .l => y1 = u ∧ Sp w0 (row e size u n xs :: blk q C T :: M) w
  | .b => ∃ g, y2 = .slice (some ⟨g, 0, none⟩) 1 1 ∧ Sp w0 (row e size u n xs :: blk q C T :: blk g X U :: M) w
  | .lb => y1 = u ∧ ∃ g, y2 = .slice (some ⟨g, 0, none⟩) 1 1 ∧ Sp w0 (row e size u n xs :: blk q C T :: blk g X U :: M) w
  | .a => ∃ g a c, y3 = .slice a (n + 1) c ∧ Sp w0 (row e size y3 (n + 1) (xs ++ X.toList) :: blk q C T :: blk g X U :: M) w
  | .f => y4 = .pointer (some ⟨q, off, none⟩) ∧ ∃ g a c, y3 = .slice a (n + 1) c ∧ Sp w0 (row e size y3 (n + 1) (xs ++ X.toList) :: blk q C T :: blk g X U :: M) w
  | .s => ∃ g a c, y3 = .slice a (n + 1) c ∧ Sp w0 (row e size y3 (n + 1) (xs ++ X.toList) :: blk q (C.setIfInBounds off y3) T :: blk g X U :: M) w
section
variable {P : Program} {ops : Array Oper} {Q : Exit → Act → World → Prop} {w0 : World}
structure Cfg where
  e : TypeId
  size : Nat
  bytes : Nat
  z : Value
  u : Value
  n : Nat
  xs : List Value
  q : Nat
  off : Nat
  C : Array Value
  T : TypeId
  X : Array Value
  U : TypeId
  t : TypeId
  ty : TypeId
structure Cfg.Ok (P : Program) (f : Cfg) : Prop where
  ht : P.underlying f.t = some (.slice f.e)
  hi : (P.info? f.e).map (fun i => (i.zero, i.size, i.bytes)) = some (some f.z, f.size, f.bytes)
  hzs : f.z.cells.size = f.size
  hsz : 0 < f.size
  hl : f.X.size = f.size
  h1 : ∀ u ∈ f.X.toList, u.oneCell' = true
  hn : f.n ≤ 1000000
  hb : f.bytes ≤ 1000
  hC : f.C[f.off]? = some f.u
/-- The state of a chain. -/
def Cfg.St (f : Cfg) (y1 y2 y3 y4 : Value) (w0 w : World) (M : List Asn) (p : Pg) : Prop := PairR.St f.e f.size f.u f.n f.xs f.q f.off f.C f.T f.X f.U y1 y2 y3 y4 w0 w M p
/-- The blocks of a chain's state, as a list: the slots' blocks are named. -/
theorem St.other (f : Cfg) {y1 y2 y3 y4 : Value} {w : World} {M : List Asn} {p : Pg} (h : f.St y1 y2 y3 y4 w0 w M p) : ∃ A, Sp w0 (A ++ M) w ∧ ∀ w' M', Sp w0 (A ++ M') w' → f.St y1 y2 y3 y4 w0 w' M' p := by
  cases p with
  | o => exact ⟨[_, _], h, fun w' M' h => h⟩
  | l => exact ⟨[_, _], h.2, fun w' M' h' => ⟨h.1, h'⟩⟩
  | b => obtain ⟨g, h1, h2⟩ := h; exact ⟨[_, _, _], h2, fun w' M' h' => ⟨g, h1, h'⟩⟩
  | lb => obtain ⟨h0, g, h1, h2⟩ := h; exact ⟨[_, _, _], h2, fun w' M' h' => ⟨h0, g, h1, h'⟩⟩
  | a => obtain ⟨g, a, c, h1, h2⟩ := h; exact ⟨[_, _, _], h2, fun w' M' h' => ⟨g, a, c, h1, h'⟩⟩
  | f => obtain ⟨h0, g, a, c, h1, h2⟩ := h; exact ⟨[_, _, _], h2, fun w' M' h' => ⟨h0, g, a, c, h1, h'⟩⟩
  | s => obtain ⟨g, a, c, h1, h2⟩ := h; exact ⟨[_, _, _], h2, fun w' M' h' => ⟨g, a, c, h1, h'⟩⟩
theorem Sp.swap {A B M : List Asn} {w : World} (h : Sp w0 (A ++ (B ++ M)) w) : Sp w0 (B ++ (A ++ M)) w := by
  refine h.perm ?_
  rw [← List.append_assoc, ← List.append_assoc]
  exact List.perm_append_comm.append_right M
/-- One step of a chain: what it may rest on is its own. -/
theorem ChOk.step {c : Chain} {G : Value → Value → Value → Value → Act} {f : Cfg} (hk : ChOk P ops Q c G f.q f.off f.u f.X f.U f.t f.ty) (hf : f.Ok P) {p p' : Pg} {i : Nat} (hm : c.move i p = some p') {y1 y2 y3 y4 : Value} {w : World} {M : List Asn} (h : f.St y1 y2 y3 y4 w0 w M p)
    {K : Act → World → Prop} (hK : ∀ z1 z2 z3 z4 w', f.St z1 z2 z3 z4 w0 w' M p' → K (G z1 z2 z3 z4) w') : wpOp P ops Q i K (G y1 y2 y3 y4) w := by
  have hload : ∀ y1 y2 y3 y4 (w : World) N, Sp w0 (row f.e f.size f.u f.n f.xs :: blk f.q f.C f.T :: N) w → K (G f.u y2 y3 y4) w → wpOp P ops Q c.iL K (G y1 y2 y3 y4) w := fun y1 y2 y3 y4 w N h hk2 =>
    hk.L y1 y2 y3 y4 w K (by rw [(h.blk (b := f.q) (C := f.C) (T := f.T) (List.mem_cons_of_mem _ (List.mem_cons_self ..))).cell]; exact hf.hC) hk2
  cases p with
  | o =>
    simp only [Chain.move] at hm
    split at hm
    · rename_i e; subst e; cases hm
      exact hload _ _ _ _ _ _ h (hK _ _ _ _ _ ⟨rfl, h⟩)
    · split at hm
      · rename_i e; subst e; cases hm
        refine hk.B _ _ _ _ _ _ (hK _ _ _ _ _ ⟨_, rfl, ?_⟩)
        have h1 := Sp.new h f.X f.U
        exact (h1.perm (List.Perm.swap _ _ _)).perm (List.Perm.cons _ (List.Perm.swap _ _ _))
      · cases hm
  | l =>
    simp only [Chain.move] at hm
    split at hm
    · rename_i e; subst e; cases hm
      refine hk.B _ _ _ _ _ _ (hK _ _ _ _ _ ⟨h.1, _, rfl, ?_⟩)
      have h1 := Sp.new h.2 f.X f.U
      exact (h1.perm (List.Perm.swap _ _ _)).perm (List.Perm.cons _ (List.Perm.swap _ _ _))
    · cases hm
  | b =>
    simp only [Chain.move] at hm
    split at hm
    · rename_i e; subst e; cases hm
      obtain ⟨g, h1, h2⟩ := h
      exact hload _ _ _ _ _ _ h2 (hK _ _ _ _ _ ⟨rfl, g, h1, h2⟩)
    · cases hm
  | lb =>
    simp only [Chain.move] at hm
    split at hm
    · rename_i e; subst e; cases hm
      obtain ⟨rfl, g, rfl, h2⟩ := h
      obtain ⟨i0, hi0, hz0, hz1, hz2⟩ := App.info_parts hf.hi
      have hbk := h2.blk (b := g) (C := f.X) (T := f.U) (List.mem_cons_of_mem _ (List.mem_cons_of_mem _ (List.mem_cons_self ..)))
      have hbt : (f.n + 1) * f.bytes ≤ 1000001 * 1000 := Nat.mul_le_mul (by have := hf.hn; omega) hf.hb
      obtain ⟨v', w', hr, hown, hg, _, hat⟩ := run_append_own_at (P := P) w 0 f.t f.ty f.e i0 f.z f.size f.bytes hf.ht hi0 hz0 hz1 hz2 hf.hzs hf.hsz f.u f.n f.xs (h2.row (List.mem_cons_self ..)) ⟨g, 0, none⟩ 1 1 f.X.toList (by simpa using hf.hl) (fun j u hu => by
        rw [Addr.add_mid, Nat.zero_add, hbk.cell]; simpa using hu) hf.h1 (by have := hf.hn; unfold maxLen; omega) (by omega) (Nat.zero_le _)
      have h3 := h2.grow hown hg hat
      obtain ⟨a, cc, e, _, _⟩ := App.own_slice hown
      exact hk.A _ _ _ _ _ _ _ hr (hK _ _ _ _ _ ⟨g, a, cc, e, h3⟩)
    · cases hm
  | a =>
    simp only [Chain.move] at hm
    split at hm
    · rename_i e; subst e; cases hm
      exact hk.F _ _ _ _ _ _ (hK _ _ _ _ _ ⟨rfl, h⟩)
    · cases hm
  | f =>
    simp only [Chain.move] at hm
    split at hm
    · rename_i e; subst e; cases hm
      obtain ⟨rfl, g, a, cc, rfl, h2⟩ := h
      have hbk := h2.blk (b := f.q) (C := f.C) (T := f.T) (List.mem_cons_of_mem _ (List.mem_cons_self ..))
      refine hk.S _ _ _ _ _ _ f.u _ (by rw [hbk.cell]; exact hf.hC) (hbk.frozen _) (hK _ _ _ _ _ ⟨g, a, cc, rfl, ?_⟩)
      exact h2.setAt 1 rfl f.off _
    · cases hm
  | s => simp only [Chain.move] at hm; cases hm
theorem move_left {c : Chain} {p p' : Pg} {i : Nat} (h : c.move i p = some p') : left p' + 1 = left p := by
  cases p <;> simp only [Chain.move] at h
  · split at h
    · cases h; rfl
    · split at h
      · cases h; rfl
      · cases h
  · split at h
    · cases h; rfl
    · cases h
  · split at h
    · cases h; rfl
    · cases h
  · split at h
    · cases h; rfl
    · cases h
  · split at h
    · cases h; rfl
    · cases h
  · split at h
    · cases h; rfl
    · cases h
  · cases h
/-- Both states at once. -/
def Two (f1 f2 : Cfg) (p1 p2 : Pg) (y1 y2 y3 y4 z1 z2 z3 z4 : Value) (w0 w : World) (M : List Asn) : Prop :=
  ∃ A B, Sp w0 (A ++ (B ++ M)) w ∧ (∀ w' M', Sp w0 (A ++ M') w' → f1.St y1 y2 y3 y4 w0 w' M' p1) ∧ (∀ w' M', Sp w0 (B ++ M') w' → f2.St z1 z2 z3 z4 w0 w' M' p2)
/-- **Both.** F: the frame, by what stands in the six slots. -/
theorem both {md : Region.Mode} {base : Array Bool} {c1 c2 : Chain} (hc : check md ops base c1 c2 = true) {S : World → Prop}
    {F : Value → Value → Value → Value → Value → Value → Value → Value → List Value} {ds : List Deferred} {f1 f2 : Cfg} (hf1 : f1.Ok P) (hf2 : f2.Ok P)
    (h1 : ∀ z1 z2 z3 z4, ChOk P ops Q c1 (fun y1 y2 y3 y4 => ⟨(F y1 y2 y3 y4 z1 z2 z3 z4).toArray, ds⟩) f1.q f1.off f1.u f1.X f1.U f1.t f1.ty)
    (h2 : ∀ y1 y2 y3 y4, ChOk P ops Q c2 (fun z1 z2 z3 z4 => ⟨(F y1 y2 y3 y4 z1 z2 z3 z4).toArray, ds⟩) f2.q f2.off f2.u f2.X f2.U f2.t f2.ty)
    {M : List Asn} (hS : ∀ A w, Sp w0 (A ++ M) w → S w)
    (hend : ∀ y1 y2 y4 z1 z2 z4 w g1 g2 a1 k1 a2 k2, Sp w0 (row f2.e f2.size (.slice a2 (f2.n + 1) k2) (f2.n + 1) (f2.xs ++ f2.X.toList) :: blk f2.q (f2.C.setIfInBounds f2.off (.slice a2 (f2.n + 1) k2)) f2.T :: blk g2 f2.X f2.U :: row f1.e f1.size (.slice a1 (f1.n + 1) k1) (f1.n + 1) (f1.xs ++ f1.X.toList) :: blk f1.q (f1.C.setIfInBounds f1.off (.slice a1 (f1.n + 1) k1)) f1.T :: blk g1 f1.X f1.U :: M) w → Q .normal ⟨(F y1 y2 (.slice a1 (f1.n + 1) k1) y4 z1 z2 (.slice a2 (f2.n + 1) k2) z4).toArray, ds⟩ w) :
    ∀ (fuel : Nat) (p1 p2 : Pg) (y1 y2 y3 y4 z1 z2 z3 z4 : Value) (w : World), left p1 + left p2 ≤ fuel → Two f1 f2 p1 p2 y1 y2 y3 y4 z1 z2 z3 z4 w0 w M → wpAnyH P md ops Q S fuel (tab c1 c2 base p1 p2) ⟨(F y1 y2 y3 y4 z1 z2 z3 z4).toArray, ds⟩ w := by
  have fin : ∀ (p1 p2 : Pg) (y1 y2 y3 y4 z1 z2 z3 z4 : Value) (w : World), p1.done = true → p2.done = true → Two f1 f2 p1 p2 y1 y2 y3 y4 z1 z2 z3 z4 w0 w M → Q .normal ⟨(F y1 y2 y3 y4 z1 z2 z3 z4).toArray, ds⟩ w := by
    rintro p1 p2 y1 y2 y3 y4 z1 z2 z3 z4 w d1 d2 ⟨A, B, h, k1, k2⟩
    cases p1 <;> first | cases d1 | skip
    cases p2 <;> first | cases d2 | skip
    obtain ⟨g1, a1, c1, rfl, s1⟩ := k1 _ _ h
    have s2 : Sp w0 ([row f1.e f1.size (.slice a1 (f1.n + 1) c1) (f1.n + 1) (f1.xs ++ f1.X.toList), blk f1.q (f1.C.setIfInBounds f1.off (.slice a1 (f1.n + 1) c1)) f1.T, blk g1 f1.X f1.U] ++ (B ++ M)) w := s1
    obtain ⟨g2, a2, c2, rfl, s3⟩ := k2 _ _ (Sp.swap s2)
    exact hend _ _ _ _ _ _ _ g1 g2 a1 c1 a2 c2 s3
  intro fuel
  induction fuel with
  | zero =>
    intro p1 p2 y1 y2 y3 y4 z1 z2 z3 z4 w hl h
    have d1 : p1.done = true := by cases p1 <;> simp [left] at hl <;> rfl
    have d2 : p2.done = true := by cases p2 <;> simp [left] at hl <;> rfl
    have hk := check_at hc p1 p2
    unfold checkAt at hk
    rw [d1, d2] at hk
    simp only [Bool.and_eq_true, Bool.and_self, Bool.not_true, Bool.false_or] at hk
    exact ⟨List.isEmpty_iff.1 hk.2, fin p1 p2 _ _ _ _ _ _ _ _ w d1 d2 h⟩
  | succ fuel ih =>
    intro p1 p2 y1 y2 y3 y4 z1 z2 z3 z4 w hl h
    have hk := check_at hc p1 p2
    unfold checkAt at hk
    rw [Bool.and_eq_true, Bool.and_eq_true] at hk
    obtain ⟨⟨ka, kb⟩, _⟩ := hk
    refine ⟨fun h0 => ?_, fun i hi => ?_⟩
    · rw [h0] at kb
      simp only [List.isEmpty_nil, Bool.not_true, Bool.false_or, Bool.and_eq_true] at kb
      exact fin p1 p2 _ _ _ _ _ _ _ _ w kb.1 kb.2 h
    · have hi2 := List.all_eq_true.1 ka i hi
      obtain ⟨A, B, hsp, k1, k2⟩ := h
      cases hm1 : c1.move i p1 with
      | some p =>
        rw [hm1] at hi2
        simp only [decide_eq_true_eq] at hi2
        rw [hi2]
        refine (h1 z1 z2 z3 z4).step hf1 hm1 (k1 _ _ hsp) fun x1 x2 x3 x4 w' hst => ?_
        obtain ⟨A', hA', hb⟩ := St.other f1 hst
        refine ⟨hS (A' ++ B) w' (by rw [List.append_assoc]; exact hA'), ih p p2 x1 x2 x3 x4 z1 z2 z3 z4 w' (by have := move_left hm1; omega) ⟨A', B, hA', hb, k2⟩⟩
      | none =>
        rw [hm1] at hi2
        cases hm2 : c2.move i p2 with
        | some p =>
          rw [hm2] at hi2
          simp only [decide_eq_true_eq] at hi2
          rw [hi2]
          refine (h2 y1 y2 y3 y4).step hf2 hm2 (k2 _ _ (Sp.swap hsp)) fun x1 x2 x3 x4 w' hst => ?_
          obtain ⟨B', hB', hb⟩ := St.other f2 hst
          have hB2 := Sp.swap hB'
          refine ⟨hS (A ++ B') w' (by rw [List.append_assoc]; exact hB2), ih p1 p y1 y2 y3 y4 x1 x2 x3 x4 w' (by have := move_left hm2; omega) ⟨A, B', hB2, k1, hb⟩⟩
        | none => rw [hm2] at hi2; cases hi2
/-- From the beginning on, whatever the slots hold. -/
theorem pair {md : Region.Mode} {base : Array Bool} {c1 c2 : Chain} (hc : check md ops base c1 c2 = true) {S : World → Prop}
    {F : Value → Value → Value → Value → Value → Value → Value → Value → List Value} {ds : List Deferred} {f1 f2 : Cfg} (hf1 : f1.Ok P) (hf2 : f2.Ok P)
    (h1 : ∀ z1 z2 z3 z4, ChOk P ops Q c1 (fun y1 y2 y3 y4 => ⟨(F y1 y2 y3 y4 z1 z2 z3 z4).toArray, ds⟩) f1.q f1.off f1.u f1.X f1.U f1.t f1.ty)
    (h2 : ∀ y1 y2 y3 y4, ChOk P ops Q c2 (fun z1 z2 z3 z4 => ⟨(F y1 y2 y3 y4 z1 z2 z3 z4).toArray, ds⟩) f2.q f2.off f2.u f2.X f2.U f2.t f2.ty)
    {M : List Asn} (hS : ∀ A w, Sp w0 (A ++ M) w → S w)
    (hend : ∀ y1 y2 y4 z1 z2 z4 w g1 g2 a1 k1 a2 k2, Sp w0 (row f2.e f2.size (.slice a2 (f2.n + 1) k2) (f2.n + 1) (f2.xs ++ f2.X.toList) :: blk f2.q (f2.C.setIfInBounds f2.off (.slice a2 (f2.n + 1) k2)) f2.T :: blk g2 f2.X f2.U :: row f1.e f1.size (.slice a1 (f1.n + 1) k1) (f1.n + 1) (f1.xs ++ f1.X.toList) :: blk f1.q (f1.C.setIfInBounds f1.off (.slice a1 (f1.n + 1) k1)) f1.T :: blk g1 f1.X f1.U :: M) w → Q .normal ⟨(F y1 y2 (.slice a1 (f1.n + 1) k1) y4 z1 z2 (.slice a2 (f2.n + 1) k2) z4).toArray, ds⟩ w) {fuel : Nat} (hfu : 10 ≤ fuel) {w : World}
    (hsp : Sp w0 (row f1.e f1.size f1.u f1.n f1.xs :: blk f1.q f1.C f1.T :: row f2.e f2.size f2.u f2.n f2.xs :: blk f2.q f2.C f2.T :: M) w) :
    ∀ y1 y2 y3 y4 z1 z2 z3 z4, wpAnyH P md ops Q S fuel (tab c1 c2 base .o .o) ⟨(F y1 y2 y3 y4 z1 z2 z3 z4).toArray, ds⟩ w := fun y1 y2 y3 y4 z1 z2 z3 z4 =>
  both hc hf1 hf2 h1 h2 hS hend fuel .o .o y1 y2 y3 y4 z1 z2 z3 z4 w hfu ⟨[_, _], [_, _], hsp, fun _ _ h => h, fun _ _ h => h⟩
end
end Go.Proofs.Ytmpbohbecidkhaa.PairR
