/- Laws and walks that a claim of this seat leans on: Base, Data, Make, Lists, Model, Meas, Meas2, Funcs, Own, Own2. -/
import Derived.WalkKit
import Derived.Handy
import Derived.Lib.Hide
import Derived.Deep.WholeRow
import Derived.Test.YthpemngachlehaaGreatProg
import Derived.Laws.MakeOwn
import Derived.Lib.ItoaNum
import Derived.Deep.DeepCutAuto
import Derived.Deep.CutBlock
import Derived.Test.YthpemngachlehaaGreatZ00
set_option linter.all false
namespace Go.Proofs.YthpemngachlehaaGreat
open Go.RowKit

/-! ### the world grows: nothing that was there has turned -/
abbrev Ext (w w' : World) : Prop := Below w.heap.size w w'

theorem Ext.trans {w w' w'' : World} (h : Ext w w') (k : Ext w' w'') : Ext w w'' := Below.trans h (Below.mono k h.size)
theorem ext_alloc (w : World) (o : Obj) : Ext w (w.alloc o) := (Below.refl _ _).alloc (Nat.le_refl _) o
theorem Ext.alloc {w w' : World} (h : Ext w w') (o : Obj) : Ext w (w'.alloc o) := h.trans (ext_alloc w' o)
theorem Ext.drew {w w' : World} (h : Ext w w') : Ext w w'.drew := Below.drew h

/-- what stands in the cells of a block, from o on -/
def Has (w : World) (b o : Nat) (cs : List Value) : Prop := ∀ j u, cs[j]? = some u → w.cell? ⟨b, o + j, none⟩ = some u

theorem Has.ext {w w' : World} {b o : Nat} {cs : List Value} (h : Has w b o cs) (hx : Ext w w') : Has w' b o cs := by
 intro j u hj
 have := h j u hj
 exact (hx.cell (p := ⟨b, o + j, none⟩) (World.block_lt_of_cell? w _ this)).trans this

theorem Has.alloc (w : World) (cs : List Value) (t : TypeId) : Has (w.alloc (.cells cs.toArray t)) w.heap.size 0 cs := by
 intro j u hj
 rw [cell_of_row _ w.heap.size _ cs.toArray t (0, 0) (heap_alloc_new w _)]
 simpa using hj

/-- the head of a slice of n elements that lie from (b, o) on -/
def Hd (s : Value) (n b o : Nat) : Prop := ∃ a cap, s = .slice a n cap ∧ n ≤ cap ∧ cap ≤ maxLen ∧ (0 < n → a = some ⟨b, o, none⟩)

/-! ### one block may be written: all others stay -/
theorem Has.grown {w w' : World} {B b o : Nat} {cs : List Value} (h : Has w b o cs) (hg : w.grownBy w' (some B)) (hne : b ≠ B) : Has w' b o cs :=
 fun j u hj => hg.cell (h j u hj) (by simpa using hne)
theorem Ext.grown {w0 w w' : World} {B : Nat} (h : Ext w0 w) (hg : w.grownBy w' (some B)) (hB : w0.heap.size ≤ B) : Ext w0 w' :=
 Below.grown h hg h.size (fun k hk => by cases hk; exact hB)

theorem ret_bool {a b : Bool} (h : a = b) : Ending.returned (.bool a) = .returned (.bool b) := by rw [h]
theorem ret_int {k : IntKind} {a b : Int} (h : a = b) : Ending.returned (.int k a) = .returned (.int k b) := by rw [h]

/-- block B holds these cells, whole, and may be written -/
def Blk (w : World) (B : Nat) (cs : Array Value) (T : TypeId) : Prop := w.heap[B]? = some (.cells cs T (0, 0))
theorem Blk.lt {w : World} {B : Nat} {cs : Array Value} {T : TypeId} (h : Blk w B cs T) : B < w.heap.size := (Array.getElem?_eq_some_iff.1 h).1
theorem Blk.cell {w : World} {B : Nat} {cs : Array Value} {T : TypeId} (h : Blk w B cs T) (j : Nat) : w.cell? ⟨B, j, none⟩ = cs[j]? := cell_of_row w B j _ _ _ h
theorem Blk.frozen {w : World} {B : Nat} {cs : Array Value} {T : TypeId} (h : Blk w B cs T) (j : Nat) : w.frozen? ⟨B, j, none⟩ = false := by
 unfold Blk at h; simp [World.frozen?, h]
theorem Blk.ext {w w' : World} {B : Nat} {cs : Array Value} {T : TypeId} (h : Blk w B cs T) (hx : Ext w w') : Blk w' B cs T := (hx.block B h.lt).trans h
theorem Blk.grown {w w' : World} {B B' : Nat} {cs : Array Value} {T : TypeId} (h : Blk w B cs T) (hg : w.grownBy w' (some B')) (hne : B ≠ B') : Blk w' B cs T :=
 (hg.block B h.lt (by simpa using hne)).trans h
theorem Blk.new (w : World) (cs : Array Value) (T : TypeId) : Blk (w.alloc (.cells cs T)) w.heap.size cs T := heap_alloc_new w _
theorem Blk.alloc {w : World} {B : Nat} {cs : Array Value} {T : TypeId} (h : Blk w B cs T) (o : Obj) : Blk (w.alloc o) B cs T := h.ext (ext_alloc w o)
theorem Blk.drew {w : World} {B : Nat} {cs : Array Value} {T : TypeId} (h : Blk w B cs T) : Blk w.drew B cs T := h
theorem Blk.set {w : World} {B : Nat} {cs : Array Value} {T : TypeId} (h : Blk w B cs T) (j : Nat) (v : Value) : Blk (w.setCell ⟨B, j, none⟩ v) B (cs.setIfInBounds j v) T := by
 unfold Blk at *
 simp [World.setCell, Array.getElem?_modify, h]
theorem Blk.has {w : World} {B : Nat} {cs : List Value} {T : TypeId} (h : Blk w B cs.toArray T) : Has w B 0 cs := by
 intro j u hj
 rw [h.cell]; simpa using hj

theorem gb_refl (w : World) (B : Nat) : w.grownBy w (some B) := ⟨rfl, rfl, rfl, Nat.le_refl _, fun _ _ _ => rfl⟩
theorem gb_trans {a b c : World} {B : Nat} (h : a.grownBy b (some B)) (k : b.grownBy c (some B)) : a.grownBy c (some B) :=
 ⟨k.os.trans h.os, k.tape.trans h.tape, k.output.trans h.output, Nat.le_trans h.size k.size, fun j hj hne => (k.block j (Nat.lt_of_lt_of_le hj h.size) hne).trans (h.block j hj hne)⟩
theorem gb_set (w : World) (B j : Nat) (v : Value) : w.grownBy (w.setCell ⟨B, j, none⟩ v) (some B) :=
 ⟨rfl, rfl, rfl, by simp [World.setCell], fun k hk hne => Below.heap_setCell _ _ _ _ (by intro e; subst e; simp at hne)⟩
theorem gb_ext {w w' : World} (h : Ext w w') (B : Nat) : w.grownBy w' (some B) := ⟨h.os, h.tape, h.output, h.size, fun k hk _ => h.block k hk⟩
theorem gb_alloc {a w : World} {B : Nat} (h : a.grownBy w (some B)) (o : Obj) : a.grownBy (w.alloc o) (some B) := gb_trans h (gb_ext (ext_alloc w o) B)
theorem gb_drew {a w : World} {B : Nat} (h : a.grownBy w (some B)) : a.grownBy w.drew (some B) := ⟨h.os, h.tape, h.output, h.size, h.block⟩

/-- so many rows of one size, one behind the other -/
def Rows {α : Type} (size : Nat) (R : α → Nat → Nat → Prop) : List α → Nat → Nat → Prop
 | [], _, _ => True
 | x :: l, b, o => R x b o ∧ Rows size R l b (o + size)

theorem Rows.get {α : Type} {size : Nat} {R : α → Nat → Nat → Prop} {l : List α} : ∀ {b o : Nat}, Rows size R l b o → ∀ {k : Nat} {x : α}, l[k]? = some x → R x b (o + k * size) := by
 induction l with
 | nil => intro b o _ k x h; simp at h
 | cons y l ih =>
  intro b o h k x hk
  cases k with
  | zero => simp at hk; subst hk; simpa using h.1
  | succ k =>
   have := ih h.2 (k := k) (x := x) (by simpa using hk)
   rw [show o + (k + 1) * size = o + size + k * size by rw [Nat.add_mul]; omega]; exact this

theorem Rows.mono {α : Type} {size : Nat} {R R' : α → Nat → Nat → Prop} {l : List α} (hr : ∀ x ∈ l, ∀ b o, R x b o → R' x b o) : ∀ {b o : Nat}, Rows size R l b o → Rows size R' l b o := by
 induction l with
 | nil => intro b o _; trivial
 | cons y l ih => intro b o h; exact ⟨hr y (by simp) _ _ h.1, ih (fun x hx => hr x (by simp [hx])) h.2⟩

/-- a slice that reads as a list -/
def Sl {α : Type} (size : Nat) (R : α → Nat → Nat → Prop) (s : Value) (l : List α) : Prop := ∃ b o, Hd s l.length b o ∧ Rows size R l b o

theorem Sl.mono {α : Type} {size : Nat} {R R' : α → Nat → Nat → Prop} {s : Value} {l : List α} (h : Sl size R s l) (hr : ∀ x ∈ l, ∀ b o, R x b o → R' x b o) : Sl size R' s l := by
 obtain ⟨b, o, h1, h2⟩ := h
 exact ⟨b, o, h1, h2.mono hr⟩

/-- a slice is a row's head and its length; its elements are read one by one -/
theorem Sl.open {α : Type} {size : Nat} {R : α → Nat → Nat → Prop} {s : Value} {l : List α} (h : Sl size R s l) :
  ∃ a b o cap, s = .slice a l.length cap ∧ l.length ≤ cap ∧ cap ≤ 9223372036854775807 ∧ (0 < l.length → a = some ⟨b, o, none⟩) ∧ Rows size R l b o := by
 obtain ⟨b, o, ⟨a, cap, h1, h2, h3, h4⟩, h5⟩ := h
 exact ⟨a, b, o, cap, h1, h2, by simpa [maxLen] using h3, h4, h5⟩

theorem Sl.nil {α : Type} (size : Nat) (R : α → Nat → Nat → Prop) : Sl size R (.slice none 0 0) ([] : List α) := ⟨0, 0, ⟨none, 0, by simp, by simp, by simp [maxLen], by simp⟩, trivial⟩

/-! ### a struct is read whole -/
def aggB : TypeDesc → Bool
 | .struct _ | .array _ _ => true
 | _ => false
/-- what is known of a struct's type: it is one, of so many cells -/
def Agg (P : Program) (ty : TypeId) (n : Nat) : Prop := (P.underlying ty).map aggB = some true ∧ (P.info? ty).map (·.size) = some n

theorem run_loadVar_has {P : Program} (w : World) (b o : Nat) (ty : TypeId) (cs : List Value) (h : Has w b o cs) (hu : Agg P ty cs.length) :
  (loadVar ty ⟨b, o, none⟩).run P w = .ok (.agg cs.toArray) w := by
 obtain ⟨hd, hi⟩ := hu
 have hl : (loadCells ⟨b, o, none⟩ cs.length).run P w = .ok cs.toArray w :=
  run_loadCells_list (P := P) w ⟨b, o, none⟩ cs (fun j v hv => by
   have hadd : (⟨b, o, none⟩ : Addr).add j = ⟨b, o + j, none⟩ := by unfold Addr.add; split <;> simp_all
   rw [hadd]; exact h j v hv)
 cases hq : P.info? ty with
 | none => simp [hq] at hi
 | some i =>
  have hs : i.size = cs.length := by simpa [hq] using hi
  have hagg : (isAgg ty).run P w = .ok true w := by
   cases hu : P.underlying ty with
   | none => simp [hu] at hd
   | some d =>
    unfold isAgg
    rw [Sem.run_bind, run_underlying hu w]
    rw [hu] at hd
    cases d <;> simp_all [aggB]
  simp [loadVar, Sem.run_bind, hagg, sizeOf, typeInfo, hq, hs, hl]

theorem wpList_load_has {P : Program} {ops : Array Oper} {rest : List Oper} {o : Oper} {a : Act} {w : World} {Q : Exit → Act → World → Prop} (hw : Region.wanted o (yielded ops a.tmps) = true) (ty : TypeId) (x : Operand) (ho : o.op = .load ty x)
  {b off : Nat} (hx : a.eval x = .pointer (some ⟨b, off, none⟩)) {cs : List Value} {n : Nat} (hg : Has w b off cs) (hu : Agg P ty n) (hn : cs.length = n)
  (h : wpList P ops Q rest (a.put o.dst (.agg cs.toArray)) w) : wpList P ops Q (o :: rest) a w :=
 BigFrame.wpList_want hw fun _ hK => by
  subst hn
  unfold Oper.wp execOp
  simp only [ho, hx, Instr.loadAt, Instr.sureAddr, Sem.run_bind, Sem.run_pure, Result.andThen_ok, run_loadVar_has w b off ty cs hg hu]
  exact hK _ _ h

/-- a function value that is called leads to its function -/
def Leads (P : Program) (g : FuncId) : Prop := ∀ (args : Array Value) (w : World), (callFunc g args).run P w = .ok (.enter g args) w

theorem leads_of {P : Program} {f : FuncId} {fn : Func} {c : Code} (hf : P.funcs[f]? = some fn) (hname : (fn.name == "runtime.NumGoroutine") = false) (hb : fn.body = some c) : Leads P f :=
 fun args w => by
  have h1 : fn.name ≠ "runtime.NumGoroutine" := by simpa using hname
  simp [callFunc, hf, h1, hb, mark]

/-- a call through a function value, by the function's contract -/
theorem wpList_call_fv {P : Program} {ops : Array Oper} {rest : List Oper} {o : Oper} {a : Act} {w : World} {Q : Exit → Act → World → Prop} (hw : Region.wanted o (yielded ops a.tmps) = true)
  (x : Operand) (l : List Operand) (ats : Array TypeId) (ho : o.op = .call { callee := .value x, args := l.toArray, argTypes := ats })
  {g : FuncId} {lb : Array Value} (hx : a.eval x = .func (.func g) #[] lb) (eg : Leads P g) {args : List Value} (hargs : l.map a.eval = args) {v : Value} {R : World → Prop}
  (hc : Calls P g (args.toArray ++ lb) w fun r w' => r = .returned v ∧ R w') (h : ∀ w', R w' → wpList P ops Q rest (a.put o.dst v) w') : wpList P ops Q (o :: rest) a w :=
 BigFrame.wpList_want hw fun K hK => by
  obtain ⟨dst, op, ty, pos, after, guard⟩ := o
  simp only at ho
  subst ho
  subst hargs
  rw [← List.map_toArray] at hc
  generalize l.toArray = xs at *
  have hrun : (execOp a.eval { dst, op := .call { callee := .value x, args := xs, argTypes := ats }, type := ty, pos, after, guard }).run P w = .ok (.enter g (xs.map a.eval ++ lb)) w := by
   have h1 : execOp a.eval { dst, op := .call { callee := .value x, args := xs, argTypes := ats }, type := ty, pos, after, guard } = (Deferred.ofValue (a.eval x) (xs.map a.eval) >>= fun d => invoke d.target d.args) := rfl
   have h2 : (Deferred.ofValue (.func (.func g) #[] lb) (xs.map a.eval) >>= fun d => invoke d.target d.args) = callFunc g (#[] ++ xs.map a.eval ++ lb) := rfl
   rw [h1, hx, h2, eg, Array.empty_append]
  unfold Oper.wp
  rw [hrun]
  exact hc.mono fun r w' ⟨hr, hR⟩ => by subst hr; exact hK _ _ (h w' hR)

/-- a call of a named function, by its contract -/
theorem wpList_call_fn {P : Program} {ops : Array Oper} {rest : List Oper} {o : Oper} {a : Act} {w : World} {Q : Exit → Act → World → Prop} (hw : Region.wanted o (yielded ops a.tmps) = true)
  (g : FuncId) (l : List Operand) (ats : Array TypeId) (ho : o.op = .call { callee := .value (.func g), args := l.toArray, argTypes := ats })
  (eg : Leads P g) {args : List Value} (hargs : l.map a.eval = args) {v : Value} {R : World → Prop}
  (hc : Calls P g args.toArray w fun r w' => r = .returned v ∧ R w') (h : ∀ w', R w' → wpList P ops Q rest (a.put o.dst v) w') : wpList P ops Q (o :: rest) a w :=
 wpList_call_fv hw (.func g) l ats ho rfl eg (lb := #[]) hargs (by rw [Array.append_empty]; exact hc) h

/-- a struct is stored whole into the block that was made last -/
theorem wpList_store_new {P : Program} {ops : Array Oper} {rest : List Oper} {o : Oper} {a : Act} {w : World} {Q : Exit → Act → World → Prop} (hw : Region.wanted o (yielded ops a.tmps) = true)
  (ty : TypeId) (x y : Operand) (ho : o.op = .store ty x y) {c : Array Value} {B : Nat} (hx : a.eval x = .pointer (some ⟨B, 0, none⟩)) (hB : w.heap.size = B) {cs : List Value} (hy : a.eval y = .agg cs.toArray) {n : Nat}
  (hu : Agg P ty n) (hn : cs.length = n) (hc : c.size = n) (h1 : cs.all (·.oneCell') = true)
  (h : wpList P ops Q rest (a.put o.dst undef) (w.alloc (.cells cs.toArray ty))) : wpList P ops Q (o :: rest) a (w.alloc (.cells c ty)) :=
 BigFrame.wpList_want hw fun _ hK => by
  subst hB
  unfold Oper.wp execOp
  simp only [ho, hx, hy]
  have := run_storeAt_new (P := P) w ty c cs.toArray (by rw [hu.2]; simp [hn]) (by simp [hn, hc]) (by simpa using h1)
  simp only [Sem.run_bind, this, Result.andThen_ok, Sem.run_pure]
  exact hK _ _ h

theorem setRow_blk {w : World} {B : Nat} {c cs : Array Value} {T : TypeId} (h : Blk w B c T) : Blk (w.setRow B cs) B cs T := by
 unfold Blk at *
 simp [World.setRow, Array.getElem?_modify, h]
theorem gb_setRow (w : World) (B : Nat) (cs : Array Value) : w.grownBy (w.setRow B cs) (some B) :=
 ⟨rfl, rfl, rfl, by simp [World.setRow], fun k hk hne => by
  simp only [World.setRow, Array.getElem?_modify]
  rw [if_neg (by intro e; subst e; simp at hne)]⟩

/-- a struct is stored whole into a block of the call's own -/
theorem wpList_store_blk {P : Program} {ops : Array Oper} {rest : List Oper} {o : Oper} {a : Act} {w : World} {Q : Exit → Act → World → Prop} (hw : Region.wanted o (yielded ops a.tmps) = true)
  (ty : TypeId) (x y : Operand) (ho : o.op = .store ty x y) {c : Array Value} {B : Nat} (hb : Blk w B c ty) (hx : a.eval x = .pointer (some ⟨B, 0, none⟩)) {cs : List Value} (hy : a.eval y = .agg cs.toArray) {n : Nat}
  (hu : Agg P ty n) (hn : cs.length = n) (hc : c.size = n) (h1 : cs.all (·.oneCell') = true)
  (h : ∀ w', Blk w' B cs.toArray ty → w.grownBy w' (some B) → wpList P ops Q rest (a.put o.dst undef) w') : wpList P ops Q (o :: rest) a w :=
 BigFrame.wpList_want hw fun _ hK => by
  unfold Oper.wp execOp
  simp only [ho, hx, hy]
  have := run_storeVar_row (P := P) w B ty ty c cs.toArray hb (by rw [hu.2]; simp [hn]) (by simp [hn, hc]) (by simpa using h1)
  simp only [Instr.storeAt, Instr.sureAddr, Sem.run_bind, Sem.run_pure, Result.andThen_ok, this]
  exact hK _ _ (h _ (setRow_blk hb) (gb_setRow w B _))

/-- a function whose result lies in a block of its own returns what that block holds -/
theorem post_ret_blk {P : Program} {fn : Func} {R : Ending → World → Prop} {a : Act} {w : World} {p : Tmp} {ty : TypeId} {B : Nat} {cs : List Value} {n : Nat} (hf : fn.results = #[.cell p ty])
  (hp : a.tmps.getD p undef = .pointer (some ⟨B, 0, none⟩)) (hb : Has w B 0 cs) (hu : Agg P ty n) (hn : cs.length = n) (hd : a.defers = []) (h : R (.returned (.agg cs.toArray)) w) : bodyPost P fn R .ret a w := by
 subst hn
 refine bodyPost_ret ?_ hd h
 have hp' : a.tmps[p]?.getD undef = .pointer (some ⟨B, 0, none⟩) := by simpa using hp
 simp [results, hf, hp', asAddr, run_loadVar_has w B 0 ty cs hb hu]

open Go.RowKit

/-! ### a design, as data -/
structure E where
 op : Int
 w : Int
 v : Int
 sig : Int
 hi : Int
 lo : Int
 n : Int
 l : List E

structure T where
 op : Int
 sig : Int
 hi : Int
 lo : Int
 e : List E
 l : List T

structure Signal where
 name : ByteArray
 w : Int
 kind : Int
 init : Int

structure Proc where
 clocked : Bool
 l : List T

structure Chk where
 name : ByteArray
 e : E

structure Flat where
 signals : List Signal
 procs : List Proc
 checks : List Chk

theorem E.ind {P : E → Prop} (h : ∀ e, (∀ x ∈ e.l, P x) → P e) (e : E) : P e := by
 refine E.rec (motive_1 := P) (motive_2 := fun l => ∀ x ∈ l, P x) ?_ ?_ ?_ e
 ·exact fun op w v sig hi lo n l ih => h _ ih
 ·intro x hx; cases hx
 ·intro x l h1 h2 y hy
  cases hy with
  | head => exact h1
  | tail _ hy => exact h2 y hy

theorem T.ind {P : T → Prop} (h : ∀ t, (∀ x ∈ t.l, P x) → P t) (t : T) : P t := by
 refine T.rec (motive_1 := P) (motive_2 := fun l => ∀ x ∈ l, P x) ?_ ?_ ?_ t
 ·exact fun op sig hi lo e l ih => h _ ih
 ·intro x hx; cases hx
 ·intro x l h1 h2 y hy
  cases hy with
  | head => exact h1
  | tail _ hy => exact h2 y hy

/-! ### its cells -/
abbrev E.cells (e : E) (s : Value) : List Value :=
 [.int .i64 e.op, .int .i64 e.w, .int .u64 e.v, .int .i64 e.sig, .int .i64 e.hi, .int .i64 e.lo, .int .i64 e.n, s]
abbrev T.cells (t : T) (s s' : Value) : List Value := [.int .i64 t.op, .int .i64 t.sig, .int .i64 t.hi, .int .i64 t.lo, s, s']
abbrev Signal.cells (x : Signal) : List Value := [.string x.name, .int .i64 x.w, .int .i64 x.kind, .int .u64 x.init]
abbrev Proc.cells (p : Proc) (s : Value) : List Value := [.bool p.clocked, s]
abbrev Chk.cells (c : Chk) (s : Value) : List Value := .string c.name :: c.e.cells s

/-! ### how it lies in memory -/
def EAt (w : World) : E → Nat → Nat → Prop
 | ⟨op, wd, v, sig, hi, lo, n, l⟩, b, o => ∃ s b' o', Has w b o [.int .i64 op, .int .i64 wd, .int .u64 v, .int .i64 sig, .int .i64 hi, .int .i64 lo, .int .i64 n, s] ∧ Hd s l.length b' o' ∧ rows l b' o'
where rows : List E → Nat → Nat → Prop
 | [], _, _ => True
 | e :: l, b, o => EAt w e b o ∧ rows l b (o + 8)

theorem EAt.rows_iff {w : World} (l : List E) : ∀ b o, EAt.rows w l b o ↔ Rows 8 (EAt w) l b o := by
 induction l with
 | nil => intro b o; simp [EAt.rows, Rows]
 | cons e l ih => intro b o; simp [EAt.rows, Rows, ih]

/-- a slice of expressions -/
abbrev Es (w : World) (s : Value) (l : List E) : Prop := Sl 8 (EAt w) s l

theorem EAt_iff {w : World} {e : E} {b o : Nat} : EAt w e b o ↔ ∃ s, Has w b o (e.cells s) ∧ Es w s e.l := by
 obtain ⟨op, wd, v, sig, hi, lo, n, l⟩ := e
 constructor
 ·rintro ⟨s, b', o', h1, h2, h3⟩
  exact ⟨s, h1, b', o', h2, (EAt.rows_iff l b' o').1 h3⟩
 ·rintro ⟨s, h1, b', o', h2, h3⟩
  exact ⟨s, b', o', h1, h2, (EAt.rows_iff l b' o').2 h3⟩

def TAt (w : World) : T → Nat → Nat → Prop
 | ⟨op, sig, hi, lo, e, l⟩, b, o => ∃ s s' b' o', Has w b o [.int .i64 op, .int .i64 sig, .int .i64 hi, .int .i64 lo, s, s'] ∧ Es w s e ∧ Hd s' l.length b' o' ∧ rows l b' o'
where rows : List T → Nat → Nat → Prop
 | [], _, _ => True
 | e :: l, b, o => TAt w e b o ∧ rows l b (o + 6)

theorem TAt.rows_iff {w : World} (l : List T) : ∀ b o, TAt.rows w l b o ↔ Rows 6 (TAt w) l b o := by
 induction l with
 | nil => intro b o; simp [TAt.rows, Rows]
 | cons e l ih => intro b o; simp [TAt.rows, Rows, ih]

abbrev Ts (w : World) (s : Value) (l : List T) : Prop := Sl 6 (TAt w) s l

theorem TAt_iff {w : World} {t : T} {b o : Nat} : TAt w t b o ↔ ∃ s s', Has w b o (t.cells s s') ∧ Es w s t.e ∧ Ts w s' t.l := by
 obtain ⟨op, sig, hi, lo, e, l⟩ := t
 constructor
 ·rintro ⟨s, s', b', o', h1, h0, h2, h3⟩
  exact ⟨s, s', h1, h0, b', o', h2, (TAt.rows_iff l b' o').1 h3⟩
 ·rintro ⟨s, s', h1, h0, b', o', h2, h3⟩
  exact ⟨s, s', b', o', h1, h0, h2, (TAt.rows_iff l b' o').2 h3⟩

abbrev SigAt (w : World) (x : Signal) (b o : Nat) : Prop := Has w b o x.cells
abbrev Sigs (w : World) (s : Value) (l : List Signal) : Prop := Sl 4 (SigAt w) s l
def ProcAt (w : World) (p : Proc) (b o : Nat) : Prop := ∃ s, Has w b o (p.cells s) ∧ Ts w s p.l
abbrev Procs (w : World) (s : Value) (l : List Proc) : Prop := Sl 2 (ProcAt w) s l
def ChkAt (w : World) (c : Chk) (b o : Nat) : Prop := ∃ s, Has w b o (c.cells s) ∧ Es w s c.e.l
abbrev Chks (w : World) (s : Value) (l : List Chk) : Prop := Sl 9 (ChkAt w) s l

/-- a design's value -/
def FlatV (w : World) (v : Value) (d : Flat) : Prop := ∃ s p c, v = .agg #[s, p, c] ∧ Sigs w s d.signals ∧ Procs w p d.procs ∧ Chks w c d.checks

/-! ### the world may grow -/
theorem EAt.ext {w w' : World} (hx : Ext w w') (e : E) : ∀ b o, EAt w e b o → EAt w' e b o := by
 induction e using E.ind with
 | h e ih =>
  intro b o h
  obtain ⟨s, h1, h2⟩ := EAt_iff.1 h
  exact EAt_iff.2 ⟨s, h1.ext hx, h2.mono ih⟩
theorem Es.ext {w w' : World} {s : Value} {l : List E} (h : Es w s l) (hx : Ext w w') : Es w' s l := h.mono fun _ _ _ _ => EAt.ext hx _ _ _

theorem TAt.ext {w w' : World} (hx : Ext w w') (t : T) : ∀ b o, TAt w t b o → TAt w' t b o := by
 induction t using T.ind with
 | h t ih =>
  intro b o h
  obtain ⟨s, s', h1, h2, h3⟩ := TAt_iff.1 h
  exact TAt_iff.2 ⟨s, s', h1.ext hx, h2.ext hx, h3.mono ih⟩
theorem Ts.ext {w w' : World} {s : Value} {l : List T} (h : Ts w s l) (hx : Ext w w') : Ts w' s l := h.mono fun _ _ _ _ => TAt.ext hx _ _ _
theorem Sigs.ext {w w' : World} {s : Value} {l : List Signal} (h : Sigs w s l) (hx : Ext w w') : Sigs w' s l := h.mono fun _ _ _ _ h => Has.ext h hx
theorem ProcAt.ext {w w' : World} {p : Proc} {b o : Nat} (h : ProcAt w p b o) (hx : Ext w w') : ProcAt w' p b o := by
 obtain ⟨s, h1, h2⟩ := h
 exact ⟨s, h1.ext hx, h2.ext hx⟩
theorem Procs.ext {w w' : World} {s : Value} {l : List Proc} (h : Procs w s l) (hx : Ext w w') : Procs w' s l := h.mono fun _ _ _ _ h => ProcAt.ext h hx
theorem ChkAt.ext {w w' : World} {p : Chk} {b o : Nat} (h : ChkAt w p b o) (hx : Ext w w') : ChkAt w' p b o := by
 obtain ⟨s, h1, h2⟩ := h
 exact ⟨s, h1.ext hx, h2.ext hx⟩
theorem Chks.ext {w w' : World} {s : Value} {l : List Chk} (h : Chks w s l) (hx : Ext w w') : Chks w' s l := h.mono fun _ _ _ _ h => ChkAt.ext h hx
theorem FlatV.ext {w w' : World} {v : Value} {d : Flat} (h : FlatV w v d) (hx : Ext w w') : FlatV w' v d := by
 obtain ⟨s, p, c, h0, h1, h2, h3⟩ := h
 exact ⟨s, p, c, h0, h1.ext hx, h2.ext hx, h3.ext hx⟩

/-- element k of a slice of expressions -/
theorem Es.get {w : World} {l : List E} {b o k : Nat} (h : Rows 8 (EAt w) l b o) (hk : k < l.length) : ∃ s, Has w b (o + k * 8) (l[k].cells s) ∧ Es w s l[k].l :=
 EAt_iff.1 (h.get (List.getElem?_eq_getElem hk))
theorem Ts.get {w : World} {l : List T} {b o k : Nat} (h : Rows 6 (TAt w) l b o) (hk : k < l.length) : ∃ s s', Has w b (o + k * 6) (l[k].cells s s') ∧ Es w s l[k].e ∧ Ts w s' l[k].l :=
 TAt_iff.1 (h.get (List.getElem?_eq_getElem hk))

/-! ### the types of the translation -/
theorem agg_E : Agg Tryz.prog 48 8 := by unfold Agg; exact ⟨by kernel_rfl, by kernel_rfl⟩
theorem agg_T : Agg Tryz.prog 68 6 := by unfold Agg; exact ⟨by kernel_rfl, by kernel_rfl⟩
theorem agg_Signal : Agg Tryz.prog 42 4 := by unfold Agg; exact ⟨by kernel_rfl, by kernel_rfl⟩
theorem agg_Proc : Agg Tryz.prog 38 2 := by unfold Agg; exact ⟨by kernel_rfl, by kernel_rfl⟩
theorem agg_Check : Agg Tryz.prog 100 9 := by unfold Agg; exact ⟨by kernel_rfl, by kernel_rfl⟩
theorem agg_Flat : Agg Tryz.prog 26 3 := by unfold Agg; exact ⟨by kernel_rfl, by kernel_rfl⟩

open Go.RowKit

/-- what a made slice holds: so many zeros -/
theorem madeCells_one (z : Value) (n : Nat) : madeCells #[z] n = (List.replicate n z).toArray := by
 apply Array.ext_getElem?
 intro i
 simp only [madeCells, Array.getElem?_map, Array.getElem?_range]
 by_cases h : i < n
 ·simp [h, Nat.mod_one, List.getElem?_replicate]
 ·simp [h, List.getElem?_replicate]

/-- make([]T, n) -/
theorem wpList_mk {P : Program} {ops : Array Oper} {rest : List Oper} {o : Oper} {a : Act} {w : World} {Q : Exit → Act → World → Prop} (hw : Region.wanted o (yielded ops a.tmps) = true)
  (T : TypeId) (x y : Operand) (ho : o.op = .makeSlice T x y) {n : Nat} (hx : a.eval x = .int .i64 (n : Int)) (hy : a.eval y = .int .i64 (n : Int)) {e : TypeId} {z : Value} {size bytes : Nat}
  (ht : P.underlying T = some (.slice e)) (hi : (P.info? e).map (fun i => (i.zero, i.size, i.bytes)) = some (some z, size, bytes)) (hb : (bytes : Int) * (n : Int) ≤ 281474976710656) (h63 : (n : Int) ≤ 9223372036854775807)
  (h : wpList P ops Q rest (a.put o.dst (.slice (some ⟨w.heap.size, 0, none⟩) n n)) (w.alloc (.cells (madeCells z.cells (n * size)) e))) : wpList P ops Q (o :: rest) a w :=
 BigFrame.wpList_want hw fun _ hK => by
  cases hq : P.info? e with
  | none => simp [hq] at hi
  | some i =>
   simp only [hq, Option.map_some, Option.some.injEq, Prod.mk.injEq] at hi
   obtain ⟨hz, hs, hbb⟩ := hi
   subst hs
   subst hbb
   have := run_make (P := P) w T e i z ht hq hz .i64 .i64 n n (by omega) (by omega) hb h63
   unfold Oper.wp execOp
   simp only [Int.toNat_natCast] at this
   simp only [ho, hx, hy, Sem.run_bind, this, Result.andThen_ok, Sem.run_pure]
   exact hK _ _ h

theorem info_int : (Tryz.prog.info? 3).map (fun i => (i.zero, i.size, i.bytes)) = some (some (.int .i64 0), 1, 8) := by kernel_rfl
theorem info_E : (Tryz.prog.info? 48).map (fun i => (i.zero, i.size, i.bytes)) = some (some (.agg #[.int .i64 0, .int .i64 0, .int .u64 0, .int .i64 0, .int .i64 0, .int .i64 0, .int .i64 0, .slice none 0 0]), 8, 80) := by kernel_rfl

/-! ### slices of ints -/
abbrev ints (l : List Int) : List Value := l.map (Value.int .i64)
def IntAt (w : World) (x : Int) (b o : Nat) : Prop := w.cell? ⟨b, o, none⟩ = some (.int .i64 x)
abbrev Is (w : World) (s : Value) (l : List Int) : Prop := Sl 1 (IntAt w) s l
theorem IntAt.ext {w w' : World} {x : Int} {b o : Nat} (h : IntAt w x b o) (hx : Ext w w') : IntAt w' x b o :=
 (hx.cell (p := ⟨b, o, none⟩) (World.block_lt_of_cell? w _ h)).trans h
theorem Is.ext {w w' : World} {s : Value} {l : List Int} (h : Is w s l) (hx : Ext w w') : Is w' s l := h.mono fun _ _ _ _ h => IntAt.ext h hx
theorem Is.get {w : World} {l : List Int} {b o k : Nat} (h : Rows 1 (IntAt w) l b o) (hk : k < l.length) : w.cell? ⟨b, o + k, none⟩ = some (.int .i64 l[k]) := by
 have := h.get (List.getElem?_eq_getElem hk)
 simpa [IntAt] using this
theorem rows_ints {w : World} {b : Nat} (l : List Int) : ∀ (o : Nat), (∀ k (hk : k < l.length), w.cell? ⟨b, o + k, none⟩ = some (.int .i64 l[k])) → Rows 1 (IntAt w) l b o := by
 induction l with
 | nil => intro o _; trivial
 | cons x l ih =>
  intro o h
  refine ⟨by have := h 0 (by simp); simpa [IntAt] using this, ih _ fun k hk => ?_⟩
  have := h (k + 1) (by simpa using hk)
  rw [show o + 1 + k = o + (k + 1) by omega]
  simpa using this
/-- a block of ints is a slice of them -/
theorem Blk.ints {w : World} {B : Nat} {l : List Int} {T : TypeId} (h : Blk w B (ints l).toArray T) (cap : Nat) (hc : l.length ≤ cap) (hm : cap ≤ maxLen) : Is w (.slice (some ⟨B, 0, none⟩) l.length cap) l :=
 ⟨B, 0, ⟨_, cap, rfl, hc, hm, fun _ => rfl⟩, rows_ints l 0 fun k hk => by rw [h.cell]; simp [hk]⟩

/-- the sum of what each is -/
def sumBy {α : Type} (f : α → Nat) : List α → Nat
 | [] => 0
 | x :: l => f x + sumBy f l
/-- the greatest of what each is -/
def maxBy {α : Type} (f : α → Nat) : List α → Nat
 | [] => 0
 | x :: l => max (f x) (maxBy f l)

theorem sumBy_snoc {α : Type} (f : α → Nat) (l : List α) (x : α) : sumBy f (l ++ [x]) = sumBy f l + f x := by
 induction l with
 | nil => simp [sumBy]
 | cons y l ih => simp [sumBy, ih]; omega
theorem maxBy_snoc {α : Type} (f : α → Nat) (l : List α) (x : α) : maxBy f (l ++ [x]) = max (maxBy f l) (f x) := by
 induction l with
 | nil => simp [maxBy]
 | cons y l ih => rw [List.cons_append, maxBy, maxBy, ih]; omega
theorem take_snoc {α : Type} (l : List α) (k : Nat) (h : k < l.length) : l.take (k + 1) = l.take k ++ [l[k]] := by
 rw [List.take_succ_eq_append_getElem h]
theorem sumBy_take {α : Type} (f : α → Nat) (l : List α) (k : Nat) (h : k < l.length) : sumBy f (l.take (k + 1)) = sumBy f (l.take k) + f l[k] := by
 rw [take_snoc l k h, sumBy_snoc]
theorem maxBy_take {α : Type} (f : α → Nat) (l : List α) (k : Nat) (h : k < l.length) : maxBy f (l.take (k + 1)) = max (maxBy f (l.take k)) (f l[k]) := by
 rw [take_snoc l k h, maxBy_snoc]
theorem sumBy_append {α : Type} (f : α → Nat) (l r : List α) : sumBy f (l ++ r) = sumBy f l + sumBy f r := by
 induction l with
 | nil => simp [sumBy]
 | cons y l ih => simp [sumBy, ih]; omega
theorem sumBy_take_le {α : Type} (f : α → Nat) (l : List α) (k : Nat) : sumBy f (l.take k) ≤ sumBy f l := by
 have := sumBy_append f (l.take k) (l.drop k)
 rw [List.take_append_drop] at this
 omega
theorem maxBy_append {α : Type} (f : α → Nat) (l r : List α) : maxBy f (l ++ r) = max (maxBy f l) (maxBy f r) := by
 induction l with
 | nil => simp [maxBy]
 | cons y l ih => rw [List.cons_append, maxBy, maxBy, ih]; omega
theorem maxBy_take_le {α : Type} (f : α → Nat) (l : List α) (k : Nat) : maxBy f (l.take k) ≤ maxBy f l := by
 have := maxBy_append f (l.take k) (l.drop k)
 rw [List.take_append_drop] at this
 omega
theorem le_sumBy {α : Type} (f : α → Nat) (l : List α) (x : α) (h : x ∈ l) : f x ≤ sumBy f l := by
 induction l with
 | nil => cases h
 | cons y l ih =>
  simp only [sumBy]
  cases h with
  | head => omega
  | tail _ h => have := ih h; omega
theorem maxBy_le_sumBy {α : Type} (f g : α → Nat) (l : List α) (h : ∀ x ∈ l, f x ≤ g x) : maxBy f l ≤ sumBy g l := by
 induction l with
 | nil => simp [maxBy]
 | cons y l ih =>
  have h1 := h y (by simp)
  have h2 := ih (fun x hx => h x (by simp [hx]))
  simp only [maxBy, sumBy]
  omega
theorem length_le_sumBy {α : Type} (f : α → Nat) (l : List α) (h : ∀ x ∈ l, 1 ≤ f x) : l.length ≤ sumBy f l := by
 induction l with
 | nil => simp
 | cons y l ih =>
  have h1 := h y (by simp)
  have h2 := ih (fun x hx => h x (by simp [hx]))
  simp only [sumBy, List.length_cons]
  omega

/-! ### nodes, and how deep they stand -/
def nodes : E → Nat
 | ⟨_, _, _, _, _, _, _, l⟩ => 1 + sum l
where sum : List E → Nat
 | [] => 0
 | e :: l => nodes e + sum l
def deep : E → Nat
 | ⟨_, _, _, _, _, _, _, l⟩ => mx l + 1
where mx : List E → Nat
 | [] => 0
 | e :: l => max (deep e) (mx l)
theorem nodes_eq (e : E) : nodes e = 1 + sumBy nodes e.l := by
 have h : ∀ l, nodes.sum l = sumBy nodes l := by
  intro l; induction l with
  | nil => rfl
  | cons x l ih => simp [nodes.sum, sumBy, ih]
 cases e; simp [nodes, h]
theorem deep_eq (e : E) : deep e = maxBy deep e.l + 1 := by
 have h : ∀ l, deep.mx l = maxBy deep l := by
  intro l; induction l with
  | nil => rfl
  | cons x l ih => simp [deep.mx, maxBy, ih]
 cases e; simp [deep, h]
theorem nodes_pos (e : E) : 1 ≤ nodes e := by rw [nodes_eq]; omega
theorem deep_le_nodes (e : E) : deep e ≤ nodes e := by
 induction e using E.ind with
 | h e ih => rw [nodes_eq, deep_eq]; have := maxBy_le_sumBy deep nodes e.l ih; omega

def nodesT : T → Nat
 | ⟨_, _, _, _, e, l⟩ => 1 + sum l + sumBy nodes e
where sum : List T → Nat
 | [] => 0
 | e :: l => nodesT e + sum l
def deepT : T → Nat
 | ⟨_, _, _, _, e, l⟩ => 1 + max (mx l) (maxBy deep e)
where mx : List T → Nat
 | [] => 0
 | e :: l => max (deepT e) (mx l)
theorem nodesT_eq (t : T) : nodesT t = 1 + sumBy nodesT t.l + sumBy nodes t.e := by
 have h : ∀ l, nodesT.sum l = sumBy nodesT l := by
  intro l; induction l with
  | nil => rfl
  | cons x l ih => simp [nodesT.sum, sumBy, ih]
 cases t; simp [nodesT, h]
theorem deepT_eq (t : T) : deepT t = 1 + max (maxBy deepT t.l) (maxBy deep t.e) := by
 have h : ∀ l, deepT.mx l = maxBy deepT l := by
  intro l; induction l with
  | nil => rfl
  | cons x l ih => simp [deepT.mx, maxBy, ih]
 cases t; simp [deepT, h]
theorem nodesT_pos (t : T) : 1 ≤ nodesT t := by rw [nodesT_eq]; omega
theorem deepT_le_nodesT (t : T) : deepT t ≤ nodesT t := by
 induction t using T.ind with
 | h t ih =>
  rw [nodesT_eq, deepT_eq]
  have h1 := maxBy_le_sumBy deepT nodesT t.l ih
  have h2 := maxBy_le_sumBy deep nodes t.e (fun e _ => deep_le_nodes e)
  omega

/-! ### ranges of numbers -/
def i64r (n : Int) : Prop := -9223372036854775808 ≤ n ∧ n ≤ 9223372036854775807
def u64r (n : Int) : Prop := 0 ≤ n ∧ n ≤ 18446744073709551615

def E.wf : E → Prop
 | ⟨op, w, v, sig, hi, lo, n, l⟩ => i64r op ∧ i64r w ∧ u64r v ∧ i64r sig ∧ i64r hi ∧ i64r lo ∧ i64r n ∧ wfs l
where wfs : List E → Prop
 | [] => True
 | e :: l => E.wf e ∧ wfs l
theorem E.wfs_iff (l : List E) : E.wf.wfs l ↔ ∀ e ∈ l, e.wf := by
 induction l with
 | nil => simp [E.wf.wfs]
 | cons e l ih => simp [E.wf.wfs, ih]
theorem E.wf_iff (e : E) : e.wf ↔ i64r e.op ∧ i64r e.w ∧ u64r e.v ∧ i64r e.sig ∧ i64r e.hi ∧ i64r e.lo ∧ i64r e.n ∧ ∀ x ∈ e.l, x.wf := by
 cases e; simp [E.wf, E.wfs_iff]

def T.wf : T → Prop
 | ⟨op, sig, hi, lo, e, l⟩ => i64r op ∧ i64r sig ∧ i64r hi ∧ i64r lo ∧ (∀ x ∈ e, x.wf) ∧ wfs l
where wfs : List T → Prop
 | [] => True
 | e :: l => T.wf e ∧ wfs l
theorem T.wfs_iff (l : List T) : T.wf.wfs l ↔ ∀ e ∈ l, e.wf := by
 induction l with
 | nil => simp [T.wf.wfs]
 | cons e l ih => simp [T.wf.wfs, ih]
theorem T.wf_iff (t : T) : t.wf ↔ i64r t.op ∧ i64r t.sig ∧ i64r t.hi ∧ i64r t.lo ∧ (∀ x ∈ t.e, x.wf) ∧ ∀ x ∈ t.l, x.wf := by
 cases t; simp [T.wf, T.wfs_iff]
def Signal.wf (x : Signal) : Prop := i64r x.w ∧ i64r x.kind ∧ u64r x.init ∧ x.name.size ≤ 9223372036854775807
structure Flat.wf (d : Flat) : Prop where
 signals : ∀ x ∈ d.signals, x.wf
 procs : ∀ p ∈ d.procs, ∀ t ∈ p.l, t.wf
 checks : ∀ c ∈ d.checks, c.e.wf

/-! ### shapes -/
def holds (w v : Int) : Bool := decide ((Lib.bitLen v.toNat : Int) ≤ w)

def sigW (ls : List Signal) (sig : Int) : Int := match ls[sig.toNat]? with | some s => s.w | none => 0

def slice (ls : List Signal) (sig hi lo : Int) : Bool :=
 decide (0 ≤ sig) && decide (sig < ls.length) && decide (0 ≤ lo) && decide (lo ≤ hi) && decide (hi < sigW ls sig)

/-- what an expression's own fields are to be, by its kind -/
def shape0 (ls : List Signal) (op w v sig hi lo n : Int) (len : Nat) : Bool :=
 if op = 1 then decide (len = 0) && decide (0 ≤ w) && decide (w ≤ 64) && (decide (w = 0) || holds w v) && (decide (sig = 0) && decide (hi = 0) && decide (lo = 0) && decide (n = 0))
 else if op = 2 then decide (len = 0) && slice ls sig hi lo && (decide (v = 0) && decide (n = 0))
 else if op = 3 then decide (len = 1) && decide (0 ≤ sig) && decide (sig < ls.length) && (decide (v = 0) && decide (hi = 0) && decide (lo = 0) && decide (n = 0))
 else if op = 4 then decide (len = 1) && decide (1 ≤ n) && decide (n ≤ 6) && (decide (v = 0) && decide (sig = 0) && decide (hi = 0) && decide (lo = 0))
 else if op = 5 then decide (len = 2) && decide (11 ≤ n) && decide (n ≤ 26) && (decide (v = 0) && decide (sig = 0) && decide (hi = 0) && decide (lo = 0))
 else if op = 6 then decide (len = 3) && (decide (v = 0) && decide (sig = 0) && decide (hi = 0) && decide (lo = 0) && decide (n = 0))
 else if op = 7 then decide (0 < len) && (decide (v = 0) && decide (sig = 0) && decide (hi = 0) && decide (lo = 0) && decide (n = 0))
 else if op = 8 then decide (len = 1) && decide (31 ≤ n) && decide (n ≤ 33) && decide (1 ≤ w) && decide (w ≤ 64) && (decide (v = 0) && decide (sig = 0) && decide (hi = 0) && decide (lo = 0))
 else false

def shape (ls : List Signal) : E → Bool
 | ⟨op, w, v, sig, hi, lo, n, l⟩ => shape0 ls op w v sig hi lo n l.length && all l
where all : List E → Bool
 | [] => true
 | e :: l => shape ls e && all l
theorem shape_eq (ls : List Signal) (e : E) : shape ls e = (shape0 ls e.op e.w e.v e.sig e.hi e.lo e.n e.l.length && e.l.all (shape ls)) := by
 have h : ∀ l, shape.all ls l = l.all (shape ls) := by
  intro l; induction l with
  | nil => rfl
  | cons x l ih => simp [shape.all, ih]
 cases e; simp [shape, h]

/-! ### own widths -/
def own : E → Int
 | ⟨op, w, _, _, hi, lo, n, l⟩ =>
  if op = 1 ∨ op = 8 then w
  else if op = 2 then hi - lo + 1
  else if op = 7 then cat l 0
  else if op = 6 then fst2 l
  else if op = 4 then (if n ≤ 2 then hd l else 1)
  else if op = 5 then (if n ≤ 16 then fst l else if n ≤ 18 then hd l else 1)
  else 1
where
 cat : List E → Int → Int
  | [], n => n
  | e :: l, n => if own e = 0 then 0 else cat l (n + own e)
 fst : List E → Int
  | [] => 0
  | e :: l => if own e = 0 then fst l else own e
 fst2 : List E → Int
  | [] => 0
  | _ :: l => fst l
 hd : List E → Int
  | [] => 0
  | e :: _ => own e

open Go.RowKit

set_option maxHeartbeats 400000 in
theorem Nodes_calls (e : E) : ∀ (s : Value) (w : World) (_ : Es w s e.l) (_ : nodes e ≤ 1048576),
  Calls Tryz.prog 74 #[.agg (e.cells s).toArray] w fun r w' => r = .returned (.int .i64 (nodes e)) ∧ Ext w w' := by
 induction e using E.ind with
 | h e ih =>
 intro s w h hb
 have IH := Lib.hid ih
 clear ih
 obtain ⟨op, wd, v, sig, hi, lo, n, l⟩ := e
 obtain ⟨a, b, o, cap, hs, hc1, hc2, ha, hr⟩ := h.open
 subst hs
 rw [nodes_eq] at hb
 simp only at hc1 hc2 ha hr IH hb
 have HN := Lib.hid (nodes_eq ⟨op, wd, v, sig, hi, lo, n, l⟩)
 have hbx := Has.alloc w (E.cells ⟨op, wd, v, sig, hi, lo, n, l⟩ (.slice a l.length cap)) 48
 have hx0 := ext_alloc w (.cells (E.cells ⟨op, wd, v, sig, hi, lo, n, l⟩ (.slice a l.length cap)).toArray 48)
 go_enter Tryz.func74, Tryz.ntmps74
 go_wp2_with fail
 generalize w.alloc _ = w0 at *
 go_loopw [3, 4] (fun x i wr => ∃ k : Nat, k ≤ l.length ∧ i = .int .i64 k ∧ x = .int .i64 ((1 + sumBy nodes (l.take k) : Nat) : Int) ∧ Ext w0 wr) (fun _ i _ => l.length - (intOf i).toNat)
 case atStart => exact ⟨0, Nat.zero_le _, rfl, by simp [sumBy], Below.refl _ _⟩
 case round =>
  obtain ⟨k, hk, rfl, rfl, hB⟩ := hrel
  have hc := (hbx.ext hB) 7 _ rfl
  by_cases hlt : k < l.length
  ·obtain ⟨s1, he1, he2⟩ := Es.get (hr.mono fun x _ b o => EAt.ext (hx0.trans hB) x b o) hlt
   have ht := Lib.hid (sumBy_take nodes l k hlt)
   have hle := sumBy_take_le nodes l (k + 1)
   rw [ht.out] at hle
   have hmem : l[k] ∈ l := List.getElem_mem hlt
   obtain rfl := ha (by omega)
   generalize l[k] = ek at *
   go_wp2_with (first | ((with_reducible show wpList _ _ _ (⟨_, Op.load 48 _, _, _, _, _⟩ :: _) _ _); refine wpList_load_has rfl 48 _ rfl rfl (he1) agg_E rfl ?_) | (go_at_call 74; refine (IH.out _ hmem _ _ he2 (by omega)).mono ?_; rintro r w1 ⟨rfl, hx1⟩))
   go_roundw
   case rel => exact ⟨k + 1, by omega, by go_num, by rw [ht.out]; congr 1; omega, hB.trans hx1⟩
   case measure => simp [intOf]; omega
  ·go_wp2_with fail
   go_ret
   obtain rfl : k = l.length := by omega
   exact ⟨by rw [HN.out, List.take_length]; rfl, hx0.trans hB⟩

set_option maxHeartbeats 400000 in
theorem Deep_calls (e : E) : ∀ (s : Value) (w : World) (_ : Es w s e.l) (_ : deep e ≤ 1048576),
  Calls Tryz.prog 75 #[.agg (e.cells s).toArray] w fun r w' => r = .returned (.int .i64 (deep e)) ∧ Ext w w' := by
 induction e using E.ind with
 | h e ih =>
 intro s w h hb
 have IH := Lib.hid ih
 clear ih
 obtain ⟨op, wd, v, sig, hi, lo, n, l⟩ := e
 obtain ⟨a, b, o, cap, hs, hc1, hc2, ha, hr⟩ := h.open
 subst hs
 rw [deep_eq] at hb
 simp only at hc1 hc2 ha hr IH hb
 have HN := Lib.hid (deep_eq ⟨op, wd, v, sig, hi, lo, n, l⟩)
 have hbx := Has.alloc w (E.cells ⟨op, wd, v, sig, hi, lo, n, l⟩ (.slice a l.length cap)) 48
 have hx0 := ext_alloc w (.cells (E.cells ⟨op, wd, v, sig, hi, lo, n, l⟩ (.slice a l.length cap)).toArray 48)
 have hml := maxBy_take_le deep l l.length
 rw [List.take_length] at hml
 go_enter Tryz.func75, Tryz.ntmps75
 go_wp2_with fail
 generalize w.alloc _ = w0 at *
 go_loopw [3, 4] (fun x i wr => ∃ k : Nat, k ≤ l.length ∧ i = .int .i64 k ∧ x = .int .i64 ((maxBy deep (l.take k) : Nat) : Int) ∧ Ext w0 wr) (fun _ i _ => l.length - (intOf i).toNat)
 case atStart => exact ⟨0, Nat.zero_le _, rfl, by simp [maxBy], Below.refl _ _⟩
 case round =>
  obtain ⟨k, hk, rfl, rfl, hB⟩ := hrel
  have hc := (hbx.ext hB) 7 _ rfl
  by_cases hlt : k < l.length
  ·obtain ⟨s1, he1, he2⟩ := Es.get (hr.mono fun x _ b o => EAt.ext (hx0.trans hB) x b o) hlt
   have ht := Lib.hid (maxBy_take deep l k hlt)
   have hle := maxBy_take_le deep l (k + 1)
   rw [ht.out] at hle
   have hmem : l[k] ∈ l := List.getElem_mem hlt
   obtain rfl := ha (by omega)
   generalize l[k] = ek at *
   go_wp2_with (first | ((with_reducible show wpList _ _ _ (⟨_, Op.load 48 _, _, _, _, _⟩ :: _) _ _); refine wpList_load_has rfl 48 _ rfl rfl (he1) agg_E rfl ?_) | (go_at_call 75; refine (IH.out _ hmem _ _ he2 (by omega)).mono ?_; rintro r w1 ⟨rfl, hx1⟩))
   go_roundw
   case rel => exact ⟨k + 1, by omega, by go_num, by rw [ht.out]; congr 1; split <;> omega, hB.trans hx1⟩
   case measure => simp [intOf]; omega
  ·have hle := maxBy_take_le deep l k
   go_wp2_with fail
   go_ret
   obtain rfl : k = l.length := by omega
   exact ⟨by rw [HN.out, List.take_length]; rfl, hx0.trans hB⟩

set_option maxHeartbeats 400000 in
theorem NodesT_step (l : List T) (ih : ∀ t ∈ l, ∀ (s : Value) (w : World) (_ : Ts w s t.l) (_ : sumBy nodesT t.l ≤ 1048576),
   Calls Tryz.prog 72 #[s] w fun r w' => r = .returned (.int .i64 (sumBy nodesT t.l)) ∧ Ext w w') :
  ∀ (s : Value) (w : World) (_ : Ts w s l) (_ : sumBy nodesT l ≤ 1048576),
   Calls Tryz.prog 72 #[s] w fun r w' => r = .returned (.int .i64 (sumBy nodesT l)) ∧ Ext w w' := by
 intro s w h hb
 have IH := Lib.hid ih
 clear ih
 obtain ⟨a, b, o, cap, hs, hc1, hc2, ha, hr⟩ := h.open
 subst hs
 go_enter Tryz.func72, Tryz.ntmps72
 go_wp2_with fail
 go_loopw [3, 4] (fun x i wr => ∃ k : Nat, k ≤ l.length ∧ i = .int .i64 k ∧ x = .int .i64 ((sumBy nodesT (l.take k) : Nat) : Int) ∧ Ext w wr) (fun _ i _ => l.length - (intOf i).toNat)
 case atStart => exact ⟨0, Nat.zero_le _, rfl, by simp [sumBy], Below.refl _ _⟩
 case round =>
  obtain ⟨k, hk, rfl, rfl, hB⟩ := hrel
  by_cases hlt : k < l.length
  ·obtain ⟨s1, s2, he1, he2, he3⟩ := Ts.get (hr.mono fun x _ b o => TAt.ext hB x b o) hlt
   have ht := Lib.hid (sumBy_take nodesT l k hlt)
   have hle := sumBy_take_le nodesT l (k + 1)
   rw [ht.out] at hle
   have hmem : l[k] ∈ l := List.getElem_mem hlt
   obtain rfl := ha (by omega)
   generalize l[k] = t at *
   have HT := Lib.hid (nodesT_eq t)
   rw [nodesT_eq] at hle
   obtain ⟨a1, b1, o1, cap1, hs1, hd1, hd2, hda, hdr⟩ := he2.open
   subst hs1
   have hc4 := he1 4 _ rfl
   have hc5 := he1 5 _ rfl
   go_wp2_with (first | (go_at_call 72; refine (IH.out _ hmem _ _ he3 (by omega)).mono ?_; rintro r w1 ⟨rfl, hx1⟩))
   have hx2 := hB.trans hx1
   have hdr2 := Lib.hid (hdr.mono fun x _ b o => EAt.ext hx1 x b o)
   have hc4' := (he1.ext hx1) 4 _ rfl
   clear hc4 hc5 hdr
   go_loopw [3, 5] (fun x i wr => ∃ j : Nat, j ≤ t.e.length ∧ i = .int .i64 j ∧ x = .int .i64 ((sumBy nodesT (l.take k) + 1 + sumBy nodesT t.l + sumBy nodes (t.e.take j) : Nat) : Int) ∧ Ext w1 wr) (fun _ i _ => t.e.length - (intOf i).toNat)
   case atStart => exact ⟨0, Nat.zero_le _, rfl, by simp [sumBy], Below.refl _ _⟩
   case round =>
    obtain ⟨j, hj, rfl, rfl, hB2⟩ := hrel
    have hc4 := ((he1.ext hx1).ext hB2) 4 _ rfl
    by_cases hjt : j < t.e.length
    ·obtain ⟨s3, hf1, hf2⟩ := Es.get (hdr2.out.mono fun x _ b o => EAt.ext hB2 x b o) hjt
     have ht2 := Lib.hid (sumBy_take nodes t.e j hjt)
     have hle2 := sumBy_take_le nodes t.e (j + 1)
     rw [ht2.out] at hle2
     obtain rfl := hda (by omega)
     generalize t.e[j] = ej at *
     go_wp2_with (first | ((with_reducible show wpList _ _ _ (⟨_, Op.load 48 _, _, _, _, _⟩ :: _) _ _); refine wpList_load_has rfl 48 _ rfl rfl (hf1) agg_E rfl ?_) | (go_at_call 74; refine (Nodes_calls ej _ _ hf2 (by omega)).mono ?_; rintro r w2 ⟨rfl, hx3⟩))
     go_roundw
     case rel => exact ⟨j + 1, by omega, by go_num, by rw [ht2.out]; congr 1; omega, hB2.trans hx3⟩
     case measure => simp [intOf]; omega
    ·go_wp2_with fail
     obtain rfl : j = t.e.length := by omega
     go_roundw
     case rel => exact ⟨k + 1, by omega, by go_num, by rw [ht.out, HT.out, List.take_length]; congr 1; omega, hx2.trans hB2⟩
     case measure => simp [intOf]; omega
  ·go_wp2_with fail
   go_ret
   obtain rfl : k = l.length := by omega
   exact ⟨by rw [List.take_length]; rfl, hB⟩
theorem NodesT_calls (l : List T) : ∀ (s : Value) (w : World) (_ : Ts w s l) (_ : sumBy nodesT l ≤ 1048576),
   Calls Tryz.prog 72 #[s] w fun r w' => r = .returned (.int .i64 (sumBy nodesT l)) ∧ Ext w w' :=
 NodesT_step l fun t _ => T.ind (P := fun t => ∀ (s : Value) (w : World) (_ : Ts w s t.l) (_ : sumBy nodesT t.l ≤ 1048576),
   Calls Tryz.prog 72 #[s] w fun r w' => r = .returned (.int .i64 (sumBy nodesT t.l)) ∧ Ext w w') (fun t ih => NodesT_step t.l ih) t
set_option maxHeartbeats 400000 in
theorem deepT_step (l : List T) (ih : ∀ t ∈ l, ∀ (s : Value) (w : World) (_ : Ts w s t.l) (_ : maxBy deepT t.l ≤ 1048576),
   Calls Tryz.prog 73 #[s] w fun r w' => r = .returned (.int .i64 (maxBy deepT t.l)) ∧ Ext w w') :
  ∀ (s : Value) (w : World) (_ : Ts w s l) (_ : maxBy deepT l ≤ 1048576),
   Calls Tryz.prog 73 #[s] w fun r w' => r = .returned (.int .i64 (maxBy deepT l)) ∧ Ext w w' := by
 intro s w h hb
 have IH := Lib.hid ih
 clear ih
 obtain ⟨a, b, o, cap, hs, hc1, hc2, ha, hr⟩ := h.open
 subst hs
 go_enter Tryz.func73, Tryz.ntmps73
 go_wp2_with fail
 go_loopw [3, 4] (fun x i wr => ∃ k : Nat, k ≤ l.length ∧ i = .int .i64 k ∧ x = .int .i64 ((maxBy deepT (l.take k) : Nat) : Int) ∧ Ext w wr) (fun _ i _ => l.length - (intOf i).toNat)
 case atStart => exact ⟨0, Nat.zero_le _, rfl, by simp [maxBy], Below.refl _ _⟩
 case round =>
  obtain ⟨k, hk, rfl, rfl, hB⟩ := hrel
  by_cases hlt : k < l.length
  ·obtain ⟨s1, s2, he1, he2, he3⟩ := Ts.get (hr.mono fun x _ b o => TAt.ext hB x b o) hlt
   have ht := Lib.hid (maxBy_take deepT l k hlt)
   have hle := maxBy_take_le deepT l (k + 1)
   rw [ht.out] at hle
   have hmem : l[k] ∈ l := List.getElem_mem hlt
   obtain rfl := ha (by omega)
   generalize l[k] = t at *
   have HT := Lib.hid (deepT_eq t)
   rw [deepT_eq] at hle
   obtain ⟨a1, b1, o1, cap1, hs1, hd1, hd2, hda, hdr⟩ := he2.open
   subst hs1
   have hc4 := he1 4 _ rfl
   have hc5 := he1 5 _ rfl
   have hmx : (if ((maxBy deepT (l.take k) : Nat) : Int) < 1 + ((maxBy deepT t.l : Nat) : Int) then 1 + ((maxBy deepT t.l : Nat) : Int) else ((maxBy deepT (l.take k) : Nat) : Int)) = ((max (maxBy deepT (l.take k)) (1 + maxBy deepT t.l) : Nat) : Int) := by split <;> omega
   go_wp2_with (first | (go_at_call 73; refine (IH.out _ hmem _ _ he3 (by omega)).mono ?_; rintro r w1 ⟨rfl, hx1⟩))
   have hx2 := hB.trans hx1
   have hdr2 := Lib.hid (hdr.mono fun x _ b o => EAt.ext hx1 x b o)
   have hc4' := (he1.ext hx1) 4 _ rfl
   clear hc4 hc5 hdr hmx
   go_loopw [3, 5] (fun x i wr => ∃ j : Nat, j ≤ t.e.length ∧ i = .int .i64 j ∧ x = .int .i64 ((max (max (maxBy deepT (l.take k)) (1 + maxBy deepT t.l)) (1 + maxBy deep (t.e.take j)) : Nat) : Int) ∧ Ext w1 wr) (fun _ i _ => t.e.length - (intOf i).toNat)
   case atStart => exact ⟨0, Nat.zero_le _, rfl, by simp [maxBy], Below.refl _ _⟩
   case round =>
    obtain ⟨j, hj, rfl, rfl, hB2⟩ := hrel
    have hc4 := ((he1.ext hx1).ext hB2) 4 _ rfl
    by_cases hjt : j < t.e.length
    ·obtain ⟨s3, hf1, hf2⟩ := Es.get (hdr2.out.mono fun x _ b o => EAt.ext hB2 x b o) hjt
     have ht2 := Lib.hid (maxBy_take deep t.e j hjt)
     have hle2 := maxBy_take_le deep t.e (j + 1)
     rw [ht2.out] at hle2
     obtain rfl := hda (by omega)
     generalize t.e[j] = ej at *
     go_wp2_with (first | ((with_reducible show wpList _ _ _ (⟨_, Op.load 48 _, _, _, _, _⟩ :: _) _ _); refine wpList_load_has rfl 48 _ rfl rfl (hf1) agg_E rfl ?_) | (go_at_call 75; refine (Deep_calls ej _ _ hf2 (by omega)).mono ?_; rintro r w2 ⟨rfl, hx3⟩))
     go_roundw
     case rel => exact ⟨j + 1, by omega, by go_num, by rw [ht2.out]; congr 1; split <;> omega, hB2.trans hx3⟩
     case measure => simp [intOf]; omega
    ·go_wp2_with fail
     obtain rfl : j = t.e.length := by omega
     go_roundw
     case rel => exact ⟨k + 1, by omega, by go_num, by rw [ht.out, HT.out, List.take_length]; congr 1; omega, hx2.trans hB2⟩
     case measure => simp [intOf]; omega
  ·go_wp2_with fail
   go_ret
   obtain rfl : k = l.length := by omega
   exact ⟨by rw [List.take_length]; rfl, hB⟩
theorem deepT_calls (l : List T) : ∀ (s : Value) (w : World) (_ : Ts w s l) (_ : maxBy deepT l ≤ 1048576),
   Calls Tryz.prog 73 #[s] w fun r w' => r = .returned (.int .i64 (maxBy deepT l)) ∧ Ext w w' :=
 deepT_step l fun t _ => T.ind (P := fun t => ∀ (s : Value) (w : World) (_ : Ts w s t.l) (_ : maxBy deepT t.l ≤ 1048576),
   Calls Tryz.prog 73 #[s] w fun r w' => r = .returned (.int .i64 (maxBy deepT t.l)) ∧ Ext w w') (fun t ih => deepT_step t.l ih) t

open Go.RowKit

theorem Has.tail {w : World} {b o : Nat} {c : Value} {cs : List Value} (h : Has w b o (c :: cs)) : Has w b (o + 1) cs := by
 intro j u hj
 have := h (j + 1) u (by simpa using hj)
 rw [show o + 1 + j = o + (j + 1) by omega]; exact this
theorem Procs.get {w : World} {l : List Proc} {b o k : Nat} (h : Rows 2 (ProcAt w) l b o) (hk : k < l.length) : ∃ s, Has w b (o + k * 2) (l[k].cells s) ∧ Ts w s l[k].l :=
 h.get (List.getElem?_eq_getElem hk)
theorem Chks.get {w : World} {l : List Chk} {b o k : Nat} (h : Rows 9 (ChkAt w) l b o) (hk : k < l.length) : ∃ s, Has w b (o + k * 9) (l[k].cells s) ∧ Es w s l[k].e.l :=
 h.get (List.getElem?_eq_getElem hk)
theorem Sigs.get {w : World} {l : List Signal} {b o k : Nat} (h : Rows 4 (SigAt w) l b o) (hk : k < l.length) : Has w b (o + k * 4) l[k].cells :=
 h.get (List.getElem?_eq_getElem hk)

def mNodes (d : Flat) : Nat := sumBy (fun p => sumBy nodesT p.l) d.procs + sumBy (fun c => nodes c.e) d.checks
def mDeep (d : Flat) : Nat := max (maxBy (fun p => maxBy deepT p.l) d.procs) (maxBy (fun c => deep c.e) d.checks)

theorem mNodes_eq (s : List Signal) (p : List Proc) (c : List Chk) : mNodes ⟨s, p, c⟩ = sumBy (fun p => sumBy nodesT p.l) p + sumBy (fun c => nodes c.e) c := rfl
theorem mDeep_eq (s : List Signal) (p : List Proc) (c : List Chk) : mDeep ⟨s, p, c⟩ = max (maxBy (fun p => maxBy deepT p.l) p) (maxBy (fun c => deep c.e) c) := rfl

theorem mDeep_le (d : Flat) : mDeep d ≤ mNodes d := by
 unfold mDeep mNodes
 have h1 := maxBy_le_sumBy (fun p : Proc => maxBy deepT p.l) (fun p => sumBy nodesT p.l) d.procs (fun p _ => maxBy_le_sumBy deepT nodesT p.l (fun t _ => deepT_le_nodesT t))
 have h2 := maxBy_le_sumBy (fun c : Chk => deep c.e) (fun c => nodes c.e) d.checks (fun c _ => deep_le_nodes c.e)
 omega

set_option maxHeartbeats 400000 in
theorem measure_calls (d : Flat) (v : Value) (w : World) (h : FlatV w v d) (hb : mNodes d ≤ 1048576) :
  Calls Tryz.prog 48 #[v] w fun r w' => r = .returned (.tuple #[.int .i64 (mNodes d), .int .i64 (mDeep d)]) ∧ Ext w w' := by
 have hdn := mDeep_le d
 unfold mNodes at hb hdn
 unfold mDeep at hdn
 obtain ⟨sv, pv, cv, rfl, hS, hP, hC⟩ := h
 obtain ⟨ps, bp, op, capp, e2, hp1, hp2, hp3, hpr⟩ := hP.open
 obtain ⟨cs, bc, oc, capc, e3, hq1, hq2, hq3, hqr⟩ := hC.open
 subst e2; subst e3
 have hbx := Has.alloc w [sv, .slice ps d.procs.length capp, .slice cs d.checks.length capc] 26
 have hx0 := ext_alloc w (.cells [sv, .slice ps d.procs.length capp, .slice cs d.checks.length capc].toArray 26)
 clear hS hP hC
 obtain ⟨sigs, procs, checks⟩ := d
 simp only at *
 have HN := Lib.hid (mNodes_eq sigs procs checks)
 have HD := Lib.hid (mDeep_eq sigs procs checks)
 have hml := maxBy_take_le (fun p : Proc => maxBy deepT p.l) procs
 have hml2 := maxBy_take_le (fun c : Chk => deep c.e) checks
 have Hml := Lib.hid hml
 have Hml2 := Lib.hid hml2
 clear hml hml2
 go_enter Tryz.func48, Tryz.ntmps48
 go_wp2_with fail
 generalize w.alloc _ = w0 at *
 go_loopw [4, 5, 6] (fun x y i wr => ∃ k : Nat, k ≤ procs.length ∧ i = .int .i64 k ∧ x = .int .i64 ((sumBy (fun p => sumBy nodesT p.l) (procs.take k) : Nat) : Int)
   ∧ y = .int .i64 ((maxBy (fun p => maxBy deepT p.l) (procs.take k) : Nat) : Int) ∧ Ext w0 wr) (fun _ _ i _ => procs.length - (intOf i).toNat)
 case atStart => exact ⟨0, Nat.zero_le _, rfl, by simp [sumBy], by simp [maxBy], Below.refl _ _⟩
 case round =>
  obtain ⟨k, hk, rfl, rfl, rfl, hB⟩ := hrel
  have hc := (hbx.ext hB) 1 _ rfl
  have hc2 := (hbx.ext hB) 2 _ rfl
  by_cases hlt : k < procs.length
  ·obtain ⟨s1, he1, he2⟩ := Procs.get (hpr.mono fun x _ b o h => ProcAt.ext h (hx0.trans hB)) hlt
   have ht := Lib.hid (sumBy_take (fun p : Proc => sumBy nodesT p.l) procs k hlt)
   have hu := Lib.hid (maxBy_take (fun p : Proc => maxBy deepT p.l) procs k hlt)
   have hle := sumBy_take_le (fun p : Proc => sumBy nodesT p.l) procs (k + 1)
   rw [ht.out] at hle
   have hle2 := Hml.out (k + 1)
   rw [hu.out] at hle2
   obtain rfl := hp3 (by omega)
   generalize procs[k] = pk at *
   try simp only at hle hle2
   have hp1 := he1 1 _ rfl
   go_wp2_with (first | (go_at_call 72; refine (NodesT_calls _ _ _ he2 (by omega)).mono ?_; rintro r w1 ⟨rfl, hx1⟩); have hc := ((hbx.ext hB).ext hx1) 1 _ rfl; have hp1 := (he1.ext hx1) 1 _ rfl | (go_at_call 73; refine (deepT_calls _ _ _ (he2.ext hx1) (by omega)).mono ?_; rintro r w2 ⟨rfl, hx2⟩))
   go_roundw
   case rel => exact ⟨k + 1, by omega, by go_num, by rw [ht.out]; rfl, by rw [hu.out]; congr 1; split <;> omega, hB.trans (hx1.trans hx2)⟩
   case measure => simp [intOf]; omega
  ·have hle2 := Hml.out k
   go_wp2_with fail
   obtain rfl : k = procs.length := by omega
   try rw [List.take_length, List.take_length]
   have hx1 := hx0.trans hB
   have hbx1 := hbx.ext hB
   clear hc hc2 hbx hB hx0
   generalize wr = w1 at *
   go_loopw [4, 5, 7] (fun x y i wr => ∃ k : Nat, k ≤ checks.length ∧ i = .int .i64 k ∧ x = .int .i64 ((sumBy (fun p => sumBy nodesT p.l) procs + sumBy (fun c => nodes c.e) (checks.take k) : Nat) : Int)
     ∧ y = .int .i64 ((max (maxBy (fun p => maxBy deepT p.l) procs) (maxBy (fun c => deep c.e) (checks.take k)) : Nat) : Int) ∧ Ext w1 wr) (fun _ _ i _ => checks.length - (intOf i).toNat)
   case atStart => exact ⟨0, Nat.zero_le _, rfl, by simp [sumBy], by simp [maxBy], Below.refl _ _⟩
   case round =>
    obtain ⟨k, hk, rfl, rfl, rfl, hB⟩ := hrel
    have hc := (hbx1.ext hB) 2 _ rfl
    by_cases hlt : k < checks.length
    ·obtain ⟨s1, he1, he2⟩ := Chks.get (hqr.mono fun x _ b o h => ChkAt.ext h (hx1.trans hB)) hlt
     have ht := Lib.hid (sumBy_take (fun c : Chk => nodes c.e) checks k hlt)
     have hu := Lib.hid (maxBy_take (fun c : Chk => deep c.e) checks k hlt)
     have hle := sumBy_take_le (fun c : Chk => nodes c.e) checks (k + 1)
     rw [ht.out] at hle
     have hle2 := Hml2.out (k + 1)
     rw [hu.out] at hle2
     obtain rfl := hq3 (by omega)
     generalize checks[k] = pk at *
     try simp only at hle hle2
     have he1 := he1.tail
     go_wp2_with (first | ((with_reducible show wpList _ _ _ (⟨_, Op.load 48 _, _, _, _, _⟩ :: _) _ _); refine wpList_load_has rfl 48 _ rfl rfl (he1) agg_E rfl ?_) | (go_at_call 74; refine (Nodes_calls _ _ _ he2 (by omega)).mono ?_; rintro r w2 ⟨rfl, hx2⟩); have hc := ((hbx1.ext hB).ext hx2) 2 _ rfl; have he1 := he1.ext hx2 | (go_at_call 75; refine (Deep_calls _ _ _ (he2.ext hx2) (by omega)).mono ?_; rintro r w3 ⟨rfl, hx3⟩))
     go_roundw
     case rel => exact ⟨k + 1, by omega, by go_num, by rw [ht.out]; congr 1; omega, by rw [hu.out]; congr 1; split <;> omega, hB.trans (hx2.trans hx3)⟩
     case measure => simp [intOf]; omega
    ·have hle2 := Hml2.out k
     go_wp2_with fail
     go_ret2
     obtain rfl : k = checks.length := by omega
     exact ⟨by rw [HN.out, HD.out]; rw [List.take_length]; rfl, hx1.trans hB⟩

def small (d : Flat) : Bool := decide (mNodes d ≤ 2000) && decide (mDeep d ≤ 100) && decide (d.signals.length ≤ 100) && decide (d.procs.length ≤ 200) && decide (d.checks.length ≤ 100)

set_option maxHeartbeats 400000 in
theorem Small_calls (d : Flat) (v : Value) (w : World) (h : FlatV w v d) (hb : mNodes d ≤ 1048576) :
  Calls Tryz.prog 27 #[v] w fun r w' => r = .returned (.bool (small d)) ∧ Ext w w' := by
 have HF := Lib.hid h
 obtain ⟨sv, pv, cv, rfl, hS, hP, hC⟩ := h
 obtain ⟨xs, bs, os, caps, e1, -, -, -, -⟩ := hS.open
 obtain ⟨ap, bp, op, capp, e2, -, -, -, -⟩ := hP.open
 obtain ⟨ac, bc, oc, capc, e3, -, -, -, -⟩ := hC.open
 subst e1; subst e2; subst e3
 have hbx := Has.alloc w [.slice xs d.signals.length caps, .slice ap d.procs.length capp, .slice ac d.checks.length capc] 26
 have hx0 := ext_alloc w (.cells [.slice xs d.signals.length caps, .slice ap d.procs.length capp, .slice ac d.checks.length capc].toArray 26)
 have hz := mDeep_le d
 clear hS hP hC
 go_enter Tryz.func27, Tryz.ntmps27
 go_wp2_with fail
 generalize w.alloc _ = w0 at *
 go_wp2_with (first | ((with_reducible show wpList _ _ _ (⟨_, Op.load 26 _, _, _, _, _⟩ :: _) _ _); refine wpList_load_has rfl 26 _ rfl rfl (hbx) agg_Flat rfl ?_) | (go_at_call 48; refine (measure_calls _ _ _ (HF.out.ext hx0) hb).mono ?_; rintro r w1 ⟨rfl, hx1⟩); have hc0 := (hbx.ext hx1) 0 _ rfl; have hc1 := (hbx.ext hx1) 1 _ rfl; have hc2 := (hbx.ext hx1) 2 _ rfl)
 all_goals go_ret
 all_goals exact ⟨ret_bool (Bool.eq_iff_iff.2 (by simp [small]; omega)), hx0.trans hx1⟩

/-- few enough to be asked of (layer 12) -/
def few12 (d : Flat) : Bool := small d && decide (d.procs.length ≤ 40) && decide (d.signals.length ≤ 40)

set_option maxHeartbeats 400000 in
theorem few12_calls (d : Flat) (v : Value) (w : World) (h : FlatV w v d) (hb : mNodes d ≤ 1048576) :
  Calls Tryz.prog 10 #[v] w fun r w' => r = .returned (.bool (few12 d)) ∧ Ext w w' := by
 have HF := Lib.hid h
 obtain ⟨sv, pv, cv, rfl, hS, hP, hC⟩ := h
 obtain ⟨xs, bs, os, caps, e1, -, -, -, -⟩ := hS.open
 obtain ⟨ap, bp, op, capp, e2, -, -, -, -⟩ := hP.open
 subst e1; subst e2
 have hbx := Has.alloc w [.slice xs d.signals.length caps, .slice ap d.procs.length capp, cv] 26
 have hx0 := ext_alloc w (.cells [.slice xs d.signals.length caps, .slice ap d.procs.length capp, cv].toArray 26)
 clear hS hP hC
 go_enter Tryz.func10, Tryz.ntmps10
 go_wp2_with fail
 generalize w.alloc _ = w0 at *
 cases hs : small d with
 | true =>
  go_wp2_with (first | ((with_reducible show wpList _ _ _ (⟨_, Op.load 26 _, _, _, _, _⟩ :: _) _ _); refine wpList_load_has rfl 26 _ rfl rfl (hbx) agg_Flat rfl ?_) | (go_at_call 27; refine (Small_calls _ _ _ (HF.out.ext hx0) hb).mono ?_; rintro r w1 ⟨rfl, hx1⟩); have hc0 := (hbx.ext hx1) 0 _ rfl; have hc1 := (hbx.ext hx1) 1 _ rfl)
  all_goals go_ret
  all_goals exact ⟨ret_bool (Bool.eq_iff_iff.2 (by simp [few12, hs]; omega)), hx0.trans hx1⟩
 | false =>
  go_wp2_with (first | ((with_reducible show wpList _ _ _ (⟨_, Op.load 26 _, _, _, _, _⟩ :: _) _ _); refine wpList_load_has rfl 26 _ rfl rfl (hbx) agg_Flat rfl ?_) | (go_at_call 27; refine (Small_calls _ _ _ (HF.out.ext hx0) hb).mono ?_; rintro r w1 ⟨rfl, hx1⟩))
  all_goals go_ret
  all_goals exact ⟨ret_bool (by simp [few12, hs]), hx0.trans hx1⟩

open Go.RowKit

/-- the cells of one, as a value's parts -/
def VE (w : World) (cs : List Value) (e : E) : Prop := ∃ s, cs = e.cells s ∧ Es w s e.l
def VT (w : World) (cs : List Value) (t : T) : Prop := ∃ s s', cs = t.cells s s' ∧ Es w s t.e ∧ Ts w s' t.l
def VSignal (_ : World) (cs : List Value) (x : Signal) : Prop := cs = x.cells
def VProc (w : World) (cs : List Value) (p : Proc) : Prop := ∃ s, cs = p.cells s ∧ Ts w s p.l
def VCheck (w : World) (cs : List Value) (c : Chk) : Prop := ∃ s, cs = c.cells s ∧ Es w s c.e.l

theorem VE.ext {w w' : World} {cs : List Value} {x : E} (h : VE w cs x) (hx : Ext w w') : VE w' cs x := by
 obtain ⟨s, h1, h2⟩ := h; exact ⟨s, h1, h2.ext hx⟩
theorem VT.ext {w w' : World} {cs : List Value} {x : T} (h : VT w cs x) (hx : Ext w w') : VT w' cs x := by
 obtain ⟨s, s', h1, h2, h3⟩ := h; exact ⟨s, s', h1, h2.ext hx, h3.ext hx⟩
theorem VSignal.ext {w w' : World} {cs : List Value} {x : Signal} (h : VSignal w cs x) (_ : Ext w w') : VSignal w' cs x := h
theorem VProc.ext {w w' : World} {cs : List Value} {x : Proc} (h : VProc w cs x) (hx : Ext w w') : VProc w' cs x := by
 obtain ⟨s, h1, h2⟩ := h; exact ⟨s, h1, h2.ext hx⟩
theorem VCheck.ext {w w' : World} {cs : List Value} {x : Chk} (h : VCheck w cs x) (hx : Ext w w') : VCheck w' cs x := by
 obtain ⟨s, h1, h2⟩ := h; exact ⟨s, h1, h2.ext hx⟩

theorem VE.get {w : World} {l : List E} {b o k : Nat} (h : Rows 8 (EAt w) l b o) (hk : k < l.length) : ∃ cs, Has w b (o + k * 8) cs ∧ cs.length = 8 ∧ VE w cs l[k] := by
 obtain ⟨s, h1, h2⟩ := Es.get h hk; exact ⟨_, h1, rfl, s, rfl, h2⟩
theorem VT.get {w : World} {l : List T} {b o k : Nat} (h : Rows 6 (TAt w) l b o) (hk : k < l.length) : ∃ cs, Has w b (o + k * 6) cs ∧ cs.length = 6 ∧ VT w cs l[k] := by
 obtain ⟨s, s', h1, h2, h3⟩ := Ts.get h hk; exact ⟨_, h1, rfl, s, s', rfl, h2, h3⟩
theorem VSignal.get {w : World} {l : List Signal} {b o k : Nat} (h : Rows 4 (SigAt w) l b o) (hk : k < l.length) : ∃ cs, Has w b (o + k * 4) cs ∧ cs.length = 4 ∧ VSignal w cs l[k] :=
 ⟨_, Sigs.get h hk, rfl, rfl⟩
theorem VProc.get {w : World} {l : List Proc} {b o k : Nat} (h : Rows 2 (ProcAt w) l b o) (hk : k < l.length) : ∃ cs, Has w b (o + k * 2) cs ∧ cs.length = 2 ∧ VProc w cs l[k] := by
 obtain ⟨s, h1, h2⟩ := Procs.get h hk; exact ⟨_, h1, rfl, s, rfl, h2⟩
theorem VCheck.get {w : World} {l : List Chk} {b o k : Nat} (h : Rows 9 (ChkAt w) l b o) (hk : k < l.length) : ∃ cs, Has w b (o + k * 9) cs ∧ cs.length = 9 ∧ VCheck w cs l[k] := by
 obtain ⟨s, h1, h2⟩ := Chks.get h hk; exact ⟨_, h1, rfl, s, rfl, h2⟩

theorem Sl.one {α : Type} {size : Nat} {R : α → Nat → Nat → Prop} {s : Value} {l : List α} (h : Sl size R s l) : s.oneCell' = true := by
 obtain ⟨a, b, o, cap, rfl, -⟩ := h.open; rfl
theorem one_int (k : IntKind) (n : Int) : (Value.int k n).oneCell' = true := rfl
theorem one_string (x : ByteArray) : (Value.string x).oneCell' = true := rfl
theorem one_bool (x : Bool) : (Value.bool x).oneCell' = true := rfl
theorem VE.one {w : World} {cs : List Value} {x : E} (h : VE w cs x) : cs.all (·.oneCell') = true := by
 obtain ⟨s, rfl, h2⟩ := h; simp [h2.one, one_int]
theorem VT.one {w : World} {cs : List Value} {x : T} (h : VT w cs x) : cs.all (·.oneCell') = true := by
 obtain ⟨s, s', rfl, h2, h3⟩ := h; simp [h2.one, h3.one, one_int]
theorem VSignal.one {w : World} {cs : List Value} {x : Signal} (h : VSignal w cs x) : cs.all (·.oneCell') = true := by
 subst h; rfl
theorem VProc.one {w : World} {cs : List Value} {x : Proc} (h : VProc w cs x) : cs.all (·.oneCell') = true := by
 obtain ⟨s, rfl, h2⟩ := h; simp [h2.one, one_int, one_string, one_bool]
theorem VCheck.one {w : World} {cs : List Value} {x : Chk} (h : VCheck w cs x) : cs.all (·.oneCell') = true := by
 obtain ⟨s, rfl, h2⟩ := h; simp [h2.one, one_int, one_string, one_bool]

theorem EAt.ext' {w w' : World} {x : E} {b o : Nat} (hx : Ext w w') (h : EAt w x b o) : EAt w' x b o := EAt.ext hx x b o h
theorem TAt.ext' {w w' : World} {x : T} {b o : Nat} (hx : Ext w w') (h : TAt w x b o) : TAt w' x b o := TAt.ext hx x b o h
theorem SigAt.ext' {w w' : World} {x : Signal} {b o : Nat} (hx : Ext w w') (h : SigAt w x b o) : SigAt w' x b o := Has.ext h hx
theorem ProcAt.ext' {w w' : World} {x : Proc} {b o : Nat} (hx : Ext w w') (h : ProcAt w x b o) : ProcAt w' x b o := ProcAt.ext h hx
theorem ChkAt.ext' {w w' : World} {x : Chk} {b o : Nat} (hx : Ext w w') (h : ChkAt w x b o) : ChkAt w' x b o := ChkAt.ext h hx

/-- where the first is of which p holds; -1: none -/
def idxOf {α : Type} (p : α → Bool) (l : List α) : Int := if l.any p then (l.findIdx p : Nat) else -1

theorem idxOf_found {α : Type} {p : α → Bool} {l : List α} {k : Nat} (h : k < l.length) (h0 : ∀ j (hj : j < k), p (l[j]'(by omega)) = false) (h1 : p l[k] = true) : idxOf p l = k := by
 have ha : l.any p = true := List.any_eq_true.2 ⟨_, List.getElem_mem h, h1⟩
 have : l.findIdx p = k := by
  rw [List.findIdx_eq h]; exact ⟨h1, fun j hj => by simpa using h0 j hj⟩
 simp [idxOf, ha, this]
theorem idxOf_none {α : Type} {p : α → Bool} {l : List α} (h0 : ∀ j (hj : j < l.length), p l[j] = false) : idxOf p l = -1 := by
 have ha : l.any p = false := by
  rw [List.any_eq_false]; intro x hx
  obtain ⟨j, hj, rfl⟩ := List.getElem_of_mem hx
  simp [h0 j hj]
 simp [idxOf, ha]
theorem idxOf_nonneg {α : Type} (p : α → Bool) (l : List α) : decide (0 ≤ idxOf p l) = l.any p := by
 unfold idxOf
 split <;> rename_i h
 ·simp [h]
 ·simp at h; simpa using h

set_option maxHeartbeats 400000 in
theorem IndexFunc_E (g : FuncId) (lb : Array Value) (p : E → Bool) (l : List E) (s : Value) (w : World) (h : Sl 8 (EAt w) s l) (eg : Leads Tryz.prog g)
  (hp : ∀ wr, Ext w wr → ∀ k (hk : k < l.length) cs, VE wr cs l[k] → Calls Tryz.prog g (#[.agg cs.toArray] ++ lb) wr fun r w' => r = .returned (.bool (p l[k])) ∧ Ext wr w') :
  Calls Tryz.prog 176 #[s, .func (.func g) #[] lb] w fun r w' => r = .returned (.int .i64 (idxOf p l)) ∧ Ext w w' := by
 have HP := Lib.hid hp
 clear hp
 obtain ⟨a, b, o, cap, hs, hc1, hc2, ha, hr⟩ := h.open
 subst hs
 go_enter Tryz.func176, Tryz.ntmps176
 go_wp2_with fail
 go_loopw [5, 8] (fun _ i wr => ∃ k : Nat, k ≤ l.length ∧ i = .int .i64 k ∧ (∀ j (hj : j < l.length), j < k → p l[j] = false) ∧ Ext w wr) (fun _ i _ => l.length - (intOf i).toNat)
 case atStart => exact ⟨0, Nat.zero_le _, rfl, fun j hj h => by omega, Below.refl _ _⟩
 case round =>
  obtain ⟨k, hk, rfl, hno, hB⟩ := hrel
  have HNO := Lib.hid hno
  clear hno
  by_cases hlt : k < l.length
  ·obtain ⟨cs, he1, hn, he2⟩ := VE.get (hr.mono fun x _ b o h => EAt.ext' hB h) hlt
   obtain rfl := ha (by omega)
   have HC := (HP.out _ hB k hlt cs he2)
   cases hpk : p l[k] with
   | true =>
    rw [hpk] at HC
    have Hpk := Lib.hid hpk
    clear hpk
    go_wp2_with (first | ((with_reducible show wpList _ _ _ (⟨_, Op.load 48 _, _, _, _, _⟩ :: _) _ _); refine wpList_load_has rfl 48 _ rfl rfl (he1) agg_E hn ?_) | ((with_reducible show wpList _ _ _ (⟨_, Op.call { callee := .value (.tmp _), args := _, argTypes := _ }, _, _, _, _⟩ :: _) _ _); refine wpList_call_fv rfl _ _ _ rfl rfl eg rfl HC ?_; intro w1 hx1))
    go_ret
    exact ⟨by rw [idxOf_found hlt (fun j hj => HNO.out j _ hj) Hpk.out]; rfl, hB.trans hx1⟩
   | false =>
    rw [hpk] at HC
    have Hpk := Lib.hid hpk
    clear hpk
    go_wp2_with (first | ((with_reducible show wpList _ _ _ (⟨_, Op.load 48 _, _, _, _, _⟩ :: _) _ _); refine wpList_load_has rfl 48 _ rfl rfl (he1) agg_E hn ?_) | ((with_reducible show wpList _ _ _ (⟨_, Op.call { callee := .value (.tmp _), args := _, argTypes := _ }, _, _, _, _⟩ :: _) _ _); refine wpList_call_fv rfl _ _ _ rfl rfl eg rfl HC ?_; intro w1 hx1))
    go_roundw
    case rel =>
     refine ⟨k + 1, by omega, by go_num, fun j hj hj2 => ?_, hB.trans hx1⟩
     by_cases hjk : j = k
     ·subst hjk; exact Hpk.out
     ·exact HNO.out j hj (by omega)
    case measure => simp [intOf]; omega
  ·go_wp2_with fail
   go_ret
   exact ⟨by rw [idxOf_none (fun j hj => HNO.out j hj (by omega))]; rfl, hB⟩

set_option maxHeartbeats 400000 in
theorem ContainsFunc_E (g : FuncId) (lb : Array Value) (p : E → Bool) (l : List E) (s : Value) (w : World) (h : Sl 8 (EAt w) s l) (eg : Leads Tryz.prog g)
  (hp : ∀ wr, Ext w wr → ∀ k (hk : k < l.length) cs, VE wr cs l[k] → Calls Tryz.prog g (#[.agg cs.toArray] ++ lb) wr fun r w' => r = .returned (.bool (p l[k])) ∧ Ext wr w') :
  Calls Tryz.prog 157 #[s, .func (.func g) #[] lb] w fun r w' => r = .returned (.bool (l.any p)) ∧ Ext w w' := by
 have HI := Lib.hid (IndexFunc_E g lb p l s w h eg hp)
 clear hp
 go_enter Tryz.func157, Tryz.ntmps157
 go_wp2_with (first | (go_at_call 176; refine HI.out.mono ?_; rintro r w1 ⟨rfl, hx1⟩))
 go_ret
 exact ⟨ret_bool (idxOf_nonneg p l), hx1⟩

set_option maxHeartbeats 400000 in
theorem IndexFunc_T (g : FuncId) (lb : Array Value) (p : T → Bool) (l : List T) (s : Value) (w : World) (h : Sl 6 (TAt w) s l) (eg : Leads Tryz.prog g)
  (hp : ∀ wr, Ext w wr → ∀ k (hk : k < l.length) cs, VT wr cs l[k] → Calls Tryz.prog g (#[.agg cs.toArray] ++ lb) wr fun r w' => r = .returned (.bool (p l[k])) ∧ Ext wr w') :
  Calls Tryz.prog 160 #[s, .func (.func g) #[] lb] w fun r w' => r = .returned (.int .i64 (idxOf p l)) ∧ Ext w w' := by
 have HP := Lib.hid hp
 clear hp
 obtain ⟨a, b, o, cap, hs, hc1, hc2, ha, hr⟩ := h.open
 subst hs
 go_enter Tryz.func160, Tryz.ntmps160
 go_wp2_with fail
 go_loopw [5, 8] (fun _ i wr => ∃ k : Nat, k ≤ l.length ∧ i = .int .i64 k ∧ (∀ j (hj : j < l.length), j < k → p l[j] = false) ∧ Ext w wr) (fun _ i _ => l.length - (intOf i).toNat)
 case atStart => exact ⟨0, Nat.zero_le _, rfl, fun j hj h => by omega, Below.refl _ _⟩
 case round =>
  obtain ⟨k, hk, rfl, hno, hB⟩ := hrel
  have HNO := Lib.hid hno
  clear hno
  by_cases hlt : k < l.length
  ·obtain ⟨cs, he1, hn, he2⟩ := VT.get (hr.mono fun x _ b o h => TAt.ext' hB h) hlt
   obtain rfl := ha (by omega)
   have HC := (HP.out _ hB k hlt cs he2)
   cases hpk : p l[k] with
   | true =>
    rw [hpk] at HC
    have Hpk := Lib.hid hpk
    clear hpk
    go_wp2_with (first | ((with_reducible show wpList _ _ _ (⟨_, Op.load 68 _, _, _, _, _⟩ :: _) _ _); refine wpList_load_has rfl 68 _ rfl rfl (he1) agg_T hn ?_) | ((with_reducible show wpList _ _ _ (⟨_, Op.call { callee := .value (.tmp _), args := _, argTypes := _ }, _, _, _, _⟩ :: _) _ _); refine wpList_call_fv rfl _ _ _ rfl rfl eg rfl HC ?_; intro w1 hx1))
    go_ret
    exact ⟨by rw [idxOf_found hlt (fun j hj => HNO.out j _ hj) Hpk.out]; rfl, hB.trans hx1⟩
   | false =>
    rw [hpk] at HC
    have Hpk := Lib.hid hpk
    clear hpk
    go_wp2_with (first | ((with_reducible show wpList _ _ _ (⟨_, Op.load 68 _, _, _, _, _⟩ :: _) _ _); refine wpList_load_has rfl 68 _ rfl rfl (he1) agg_T hn ?_) | ((with_reducible show wpList _ _ _ (⟨_, Op.call { callee := .value (.tmp _), args := _, argTypes := _ }, _, _, _, _⟩ :: _) _ _); refine wpList_call_fv rfl _ _ _ rfl rfl eg rfl HC ?_; intro w1 hx1))
    go_roundw
    case rel =>
     refine ⟨k + 1, by omega, by go_num, fun j hj hj2 => ?_, hB.trans hx1⟩
     by_cases hjk : j = k
     ·subst hjk; exact Hpk.out
     ·exact HNO.out j hj (by omega)
    case measure => simp [intOf]; omega
  ·go_wp2_with fail
   go_ret
   exact ⟨by rw [idxOf_none (fun j hj => HNO.out j hj (by omega))]; rfl, hB⟩

set_option maxHeartbeats 400000 in
theorem ContainsFunc_T (g : FuncId) (lb : Array Value) (p : T → Bool) (l : List T) (s : Value) (w : World) (h : Sl 6 (TAt w) s l) (eg : Leads Tryz.prog g)
  (hp : ∀ wr, Ext w wr → ∀ k (hk : k < l.length) cs, VT wr cs l[k] → Calls Tryz.prog g (#[.agg cs.toArray] ++ lb) wr fun r w' => r = .returned (.bool (p l[k])) ∧ Ext wr w') :
  Calls Tryz.prog 119 #[s, .func (.func g) #[] lb] w fun r w' => r = .returned (.bool (l.any p)) ∧ Ext w w' := by
 have HI := Lib.hid (IndexFunc_T g lb p l s w h eg hp)
 clear hp
 go_enter Tryz.func119, Tryz.ntmps119
 go_wp2_with (first | (go_at_call 160; refine HI.out.mono ?_; rintro r w1 ⟨rfl, hx1⟩))
 go_ret
 exact ⟨ret_bool (idxOf_nonneg p l), hx1⟩

set_option maxHeartbeats 400000 in
theorem IndexFunc_Signal (g : FuncId) (lb : Array Value) (p : Signal → Bool) (l : List Signal) (s : Value) (w : World) (h : Sl 4 (SigAt w) s l) (eg : Leads Tryz.prog g)
  (hp : ∀ wr, Ext w wr → ∀ k (hk : k < l.length) cs, VSignal wr cs l[k] → Calls Tryz.prog g (#[.agg cs.toArray] ++ lb) wr fun r w' => r = .returned (.bool (p l[k])) ∧ Ext wr w') :
  Calls Tryz.prog 125 #[s, .func (.func g) #[] lb] w fun r w' => r = .returned (.int .i64 (idxOf p l)) ∧ Ext w w' := by
 have HP := Lib.hid hp
 clear hp
 obtain ⟨a, b, o, cap, hs, hc1, hc2, ha, hr⟩ := h.open
 subst hs
 go_enter Tryz.func125, Tryz.ntmps125
 go_wp2_with fail
 go_loopw [5, 8] (fun _ i wr => ∃ k : Nat, k ≤ l.length ∧ i = .int .i64 k ∧ (∀ j (hj : j < l.length), j < k → p l[j] = false) ∧ Ext w wr) (fun _ i _ => l.length - (intOf i).toNat)
 case atStart => exact ⟨0, Nat.zero_le _, rfl, fun j hj h => by omega, Below.refl _ _⟩
 case round =>
  obtain ⟨k, hk, rfl, hno, hB⟩ := hrel
  have HNO := Lib.hid hno
  clear hno
  by_cases hlt : k < l.length
  ·obtain ⟨cs, he1, hn, he2⟩ := VSignal.get (hr.mono fun x _ b o h => SigAt.ext' hB h) hlt
   obtain rfl := ha (by omega)
   have HC := (HP.out _ hB k hlt cs he2)
   cases hpk : p l[k] with
   | true =>
    rw [hpk] at HC
    have Hpk := Lib.hid hpk
    clear hpk
    go_wp2_with (first | ((with_reducible show wpList _ _ _ (⟨_, Op.load 42 _, _, _, _, _⟩ :: _) _ _); refine wpList_load_has rfl 42 _ rfl rfl (he1) agg_Signal hn ?_) | ((with_reducible show wpList _ _ _ (⟨_, Op.call { callee := .value (.tmp _), args := _, argTypes := _ }, _, _, _, _⟩ :: _) _ _); refine wpList_call_fv rfl _ _ _ rfl rfl eg rfl HC ?_; intro w1 hx1))
    go_ret
    exact ⟨by rw [idxOf_found hlt (fun j hj => HNO.out j _ hj) Hpk.out]; rfl, hB.trans hx1⟩
   | false =>
    rw [hpk] at HC
    have Hpk := Lib.hid hpk
    clear hpk
    go_wp2_with (first | ((with_reducible show wpList _ _ _ (⟨_, Op.load 42 _, _, _, _, _⟩ :: _) _ _); refine wpList_load_has rfl 42 _ rfl rfl (he1) agg_Signal hn ?_) | ((with_reducible show wpList _ _ _ (⟨_, Op.call { callee := .value (.tmp _), args := _, argTypes := _ }, _, _, _, _⟩ :: _) _ _); refine wpList_call_fv rfl _ _ _ rfl rfl eg rfl HC ?_; intro w1 hx1))
    go_roundw
    case rel =>
     refine ⟨k + 1, by omega, by go_num, fun j hj hj2 => ?_, hB.trans hx1⟩
     by_cases hjk : j = k
     ·subst hjk; exact Hpk.out
     ·exact HNO.out j hj (by omega)
    case measure => simp [intOf]; omega
  ·go_wp2_with fail
   go_ret
   exact ⟨by rw [idxOf_none (fun j hj => HNO.out j hj (by omega))]; rfl, hB⟩

set_option maxHeartbeats 400000 in
theorem ContainsFunc_Signal (g : FuncId) (lb : Array Value) (p : Signal → Bool) (l : List Signal) (s : Value) (w : World) (h : Sl 4 (SigAt w) s l) (eg : Leads Tryz.prog g)
  (hp : ∀ wr, Ext w wr → ∀ k (hk : k < l.length) cs, VSignal wr cs l[k] → Calls Tryz.prog g (#[.agg cs.toArray] ++ lb) wr fun r w' => r = .returned (.bool (p l[k])) ∧ Ext wr w') :
  Calls Tryz.prog 78 #[s, .func (.func g) #[] lb] w fun r w' => r = .returned (.bool (l.any p)) ∧ Ext w w' := by
 have HI := Lib.hid (IndexFunc_Signal g lb p l s w h eg hp)
 clear hp
 go_enter Tryz.func78, Tryz.ntmps78
 go_wp2_with (first | (go_at_call 125; refine HI.out.mono ?_; rintro r w1 ⟨rfl, hx1⟩))
 go_ret
 exact ⟨ret_bool (idxOf_nonneg p l), hx1⟩

set_option maxHeartbeats 400000 in
theorem IndexFunc_Proc (g : FuncId) (lb : Array Value) (p : Proc → Bool) (l : List Proc) (s : Value) (w : World) (h : Sl 2 (ProcAt w) s l) (eg : Leads Tryz.prog g)
  (hp : ∀ wr, Ext w wr → ∀ k (hk : k < l.length) cs, VProc wr cs l[k] → Calls Tryz.prog g (#[.agg cs.toArray] ++ lb) wr fun r w' => r = .returned (.bool (p l[k])) ∧ Ext wr w') :
  Calls Tryz.prog 162 #[s, .func (.func g) #[] lb] w fun r w' => r = .returned (.int .i64 (idxOf p l)) ∧ Ext w w' := by
 have HP := Lib.hid hp
 clear hp
 obtain ⟨a, b, o, cap, hs, hc1, hc2, ha, hr⟩ := h.open
 subst hs
 go_enter Tryz.func162, Tryz.ntmps162
 go_wp2_with fail
 go_loopw [5, 8] (fun _ i wr => ∃ k : Nat, k ≤ l.length ∧ i = .int .i64 k ∧ (∀ j (hj : j < l.length), j < k → p l[j] = false) ∧ Ext w wr) (fun _ i _ => l.length - (intOf i).toNat)
 case atStart => exact ⟨0, Nat.zero_le _, rfl, fun j hj h => by omega, Below.refl _ _⟩
 case round =>
  obtain ⟨k, hk, rfl, hno, hB⟩ := hrel
  have HNO := Lib.hid hno
  clear hno
  by_cases hlt : k < l.length
  ·obtain ⟨cs, he1, hn, he2⟩ := VProc.get (hr.mono fun x _ b o h => ProcAt.ext' hB h) hlt
   obtain rfl := ha (by omega)
   have HC := (HP.out _ hB k hlt cs he2)
   cases hpk : p l[k] with
   | true =>
    rw [hpk] at HC
    have Hpk := Lib.hid hpk
    clear hpk
    go_wp2_with (first | ((with_reducible show wpList _ _ _ (⟨_, Op.load 38 _, _, _, _, _⟩ :: _) _ _); refine wpList_load_has rfl 38 _ rfl rfl (he1) agg_Proc hn ?_) | ((with_reducible show wpList _ _ _ (⟨_, Op.call { callee := .value (.tmp _), args := _, argTypes := _ }, _, _, _, _⟩ :: _) _ _); refine wpList_call_fv rfl _ _ _ rfl rfl eg rfl HC ?_; intro w1 hx1))
    go_ret
    exact ⟨by rw [idxOf_found hlt (fun j hj => HNO.out j _ hj) Hpk.out]; rfl, hB.trans hx1⟩
   | false =>
    rw [hpk] at HC
    have Hpk := Lib.hid hpk
    clear hpk
    go_wp2_with (first | ((with_reducible show wpList _ _ _ (⟨_, Op.load 38 _, _, _, _, _⟩ :: _) _ _); refine wpList_load_has rfl 38 _ rfl rfl (he1) agg_Proc hn ?_) | ((with_reducible show wpList _ _ _ (⟨_, Op.call { callee := .value (.tmp _), args := _, argTypes := _ }, _, _, _, _⟩ :: _) _ _); refine wpList_call_fv rfl _ _ _ rfl rfl eg rfl HC ?_; intro w1 hx1))
    go_roundw
    case rel =>
     refine ⟨k + 1, by omega, by go_num, fun j hj hj2 => ?_, hB.trans hx1⟩
     by_cases hjk : j = k
     ·subst hjk; exact Hpk.out
     ·exact HNO.out j hj (by omega)
    case measure => simp [intOf]; omega
  ·go_wp2_with fail
   go_ret
   exact ⟨by rw [idxOf_none (fun j hj => HNO.out j hj (by omega))]; rfl, hB⟩

set_option maxHeartbeats 400000 in
theorem ContainsFunc_Proc (g : FuncId) (lb : Array Value) (p : Proc → Bool) (l : List Proc) (s : Value) (w : World) (h : Sl 2 (ProcAt w) s l) (eg : Leads Tryz.prog g)
  (hp : ∀ wr, Ext w wr → ∀ k (hk : k < l.length) cs, VProc wr cs l[k] → Calls Tryz.prog g (#[.agg cs.toArray] ++ lb) wr fun r w' => r = .returned (.bool (p l[k])) ∧ Ext wr w') :
  Calls Tryz.prog 123 #[s, .func (.func g) #[] lb] w fun r w' => r = .returned (.bool (l.any p)) ∧ Ext w w' := by
 have HI := Lib.hid (IndexFunc_Proc g lb p l s w h eg hp)
 clear hp
 go_enter Tryz.func123, Tryz.ntmps123
 go_wp2_with (first | (go_at_call 162; refine HI.out.mono ?_; rintro r w1 ⟨rfl, hx1⟩))
 go_ret
 exact ⟨ret_bool (idxOf_nonneg p l), hx1⟩

set_option maxHeartbeats 400000 in
theorem IndexFunc_Check (g : FuncId) (lb : Array Value) (p : Chk → Bool) (l : List Chk) (s : Value) (w : World) (h : Sl 9 (ChkAt w) s l) (eg : Leads Tryz.prog g)
  (hp : ∀ wr, Ext w wr → ∀ k (hk : k < l.length) cs, VCheck wr cs l[k] → Calls Tryz.prog g (#[.agg cs.toArray] ++ lb) wr fun r w' => r = .returned (.bool (p l[k])) ∧ Ext wr w') :
  Calls Tryz.prog 163 #[s, .func (.func g) #[] lb] w fun r w' => r = .returned (.int .i64 (idxOf p l)) ∧ Ext w w' := by
 have HP := Lib.hid hp
 clear hp
 obtain ⟨a, b, o, cap, hs, hc1, hc2, ha, hr⟩ := h.open
 subst hs
 go_enter Tryz.func163, Tryz.ntmps163
 go_wp2_with fail
 go_loopw [5, 8] (fun _ i wr => ∃ k : Nat, k ≤ l.length ∧ i = .int .i64 k ∧ (∀ j (hj : j < l.length), j < k → p l[j] = false) ∧ Ext w wr) (fun _ i _ => l.length - (intOf i).toNat)
 case atStart => exact ⟨0, Nat.zero_le _, rfl, fun j hj h => by omega, Below.refl _ _⟩
 case round =>
  obtain ⟨k, hk, rfl, hno, hB⟩ := hrel
  have HNO := Lib.hid hno
  clear hno
  by_cases hlt : k < l.length
  ·obtain ⟨cs, he1, hn, he2⟩ := VCheck.get (hr.mono fun x _ b o h => ChkAt.ext' hB h) hlt
   obtain rfl := ha (by omega)
   have HC := (HP.out _ hB k hlt cs he2)
   cases hpk : p l[k] with
   | true =>
    rw [hpk] at HC
    have Hpk := Lib.hid hpk
    clear hpk
    go_wp2_with (first | ((with_reducible show wpList _ _ _ (⟨_, Op.load 100 _, _, _, _, _⟩ :: _) _ _); refine wpList_load_has rfl 100 _ rfl rfl (he1) agg_Check hn ?_) | ((with_reducible show wpList _ _ _ (⟨_, Op.call { callee := .value (.tmp _), args := _, argTypes := _ }, _, _, _, _⟩ :: _) _ _); refine wpList_call_fv rfl _ _ _ rfl rfl eg rfl HC ?_; intro w1 hx1))
    go_ret
    exact ⟨by rw [idxOf_found hlt (fun j hj => HNO.out j _ hj) Hpk.out]; rfl, hB.trans hx1⟩
   | false =>
    rw [hpk] at HC
    have Hpk := Lib.hid hpk
    clear hpk
    go_wp2_with (first | ((with_reducible show wpList _ _ _ (⟨_, Op.load 100 _, _, _, _, _⟩ :: _) _ _); refine wpList_load_has rfl 100 _ rfl rfl (he1) agg_Check hn ?_) | ((with_reducible show wpList _ _ _ (⟨_, Op.call { callee := .value (.tmp _), args := _, argTypes := _ }, _, _, _, _⟩ :: _) _ _); refine wpList_call_fv rfl _ _ _ rfl rfl eg rfl HC ?_; intro w1 hx1))
    go_roundw
    case rel =>
     refine ⟨k + 1, by omega, by go_num, fun j hj hj2 => ?_, hB.trans hx1⟩
     by_cases hjk : j = k
     ·subst hjk; exact Hpk.out
     ·exact HNO.out j hj (by omega)
    case measure => simp [intOf]; omega
  ·go_wp2_with fail
   go_ret
   exact ⟨by rw [idxOf_none (fun j hj => HNO.out j hj (by omega))]; rfl, hB⟩

set_option maxHeartbeats 400000 in
theorem ContainsFunc_Check (g : FuncId) (lb : Array Value) (p : Chk → Bool) (l : List Chk) (s : Value) (w : World) (h : Sl 9 (ChkAt w) s l) (eg : Leads Tryz.prog g)
  (hp : ∀ wr, Ext w wr → ∀ k (hk : k < l.length) cs, VCheck wr cs l[k] → Calls Tryz.prog g (#[.agg cs.toArray] ++ lb) wr fun r w' => r = .returned (.bool (p l[k])) ∧ Ext wr w') :
  Calls Tryz.prog 124 #[s, .func (.func g) #[] lb] w fun r w' => r = .returned (.bool (l.any p)) ∧ Ext w w' := by
 have HI := Lib.hid (IndexFunc_Check g lb p l s w h eg hp)
 clear hp
 go_enter Tryz.func124, Tryz.ntmps124
 go_wp2_with (first | (go_at_call 163; refine HI.out.mono ?_; rintro r w1 ⟨rfl, hx1⟩))
 go_ret
 exact ⟨ret_bool (idxOf_nonneg p l), hx1⟩

open Go.RowKit

/-- own widths may be reckoned: parts are there, numbers are in range -/
def OwnOk : E → Prop
 | ⟨op, w, _, _, hi, lo, n, l⟩ => (op = 1 ∨ op = 8 → 0 ≤ w ∧ w ≤ 64) ∧ (op = 2 → 0 ≤ lo ∧ lo ≤ hi ∧ hi ≤ 64) ∧ (op = 6 ∨ op = 4 ∨ op = 5 ∨ op = 8 → 1 ≤ l.length) ∧ oks l
where oks : List E → Prop
 | [] => True
 | e :: l => OwnOk e ∧ oks l
theorem OwnOk.oks_iff (l : List E) : OwnOk.oks l ↔ ∀ e ∈ l, OwnOk e := by
 induction l with
 | nil => simp [OwnOk.oks]
 | cons e l ih => simp [OwnOk.oks, ih]
theorem OwnOk_iff (e : E) : OwnOk e ↔ (e.op = 1 ∨ e.op = 8 → 0 ≤ e.w ∧ e.w ≤ 64) ∧ (e.op = 2 → 0 ≤ e.lo ∧ e.lo ≤ e.hi ∧ e.hi ≤ 64) ∧ (e.op = 6 ∨ e.op = 4 ∨ e.op = 5 ∨ e.op = 8 → 1 ≤ e.l.length) ∧ ∀ x ∈ e.l, OwnOk x := by
 cases e; simp [OwnOk, OwnOk.oks_iff]

theorem own_eq (e : E) : own e = (if e.op = 1 ∨ e.op = 8 then e.w
  else if e.op = 2 then e.hi - e.lo + 1
  else if e.op = 7 then own.cat e.l 0
  else if e.op = 6 then own.fst2 e.l
  else if e.op = 4 then (if e.n ≤ 2 then own.hd e.l else 1)
  else if e.op = 5 then (if e.n ≤ 16 then own.fst e.l else if e.n ≤ 18 then own.hd e.l else 1)
  else 1) := by cases e; rw [own]

theorem own_le (e : E) (h : OwnOk e) : 0 ≤ own e ∧ own e ≤ 65 * nodes e := by
 induction e using E.ind with
 | h e ih =>
  obtain ⟨h1, h2, h3, h4⟩ := (OwnOk_iff e).1 h
  have hn := nodes_eq e
  have hl : ∀ x ∈ e.l, 0 ≤ own x ∧ own x ≤ 65 * nodes x := fun x hx => ih x hx (h4 x hx)
  have hc : ∀ (l : List E) (n : Int), (∀ x ∈ l, 0 ≤ own x ∧ own x ≤ 65 * nodes x) → 0 ≤ n → 0 ≤ own.cat l n ∧ own.cat l n ≤ n + 65 * sumBy nodes l := by
   intro l
   induction l with
   | nil => intro n _ hn; simp [own.cat, sumBy]; omega
   | cons x l ih2 =>
    intro n hx hn
    have hx0 := hx x (by simp)
    have := ih2 (n + own x) (fun y hy => hx y (by simp [hy])) (by omega)
    simp only [own.cat, sumBy]
    split <;> omega
  have hf : ∀ (l : List E), (∀ x ∈ l, 0 ≤ own x ∧ own x ≤ 65 * nodes x) → 0 ≤ own.fst l ∧ own.fst l ≤ 65 * sumBy nodes l := by
   intro l
   induction l with
   | nil => intro _; simp [own.fst, sumBy]
   | cons x l ih2 =>
    intro hx
    have hx0 := hx x (by simp)
    have := ih2 (fun y hy => hx y (by simp [hy]))
    simp only [own.fst, sumBy]
    split <;> omega
  have h1' := hc e.l 0 hl (by omega)
  have h2' := hf e.l hl
  have h3' : 0 ≤ own.fst2 e.l ∧ own.fst2 e.l ≤ 65 * sumBy nodes e.l := by
   cases hh : e.l with
   | nil => simp [own.fst2, sumBy]
   | cons x l =>
    have := hf l (fun y hy => hl y (by simp [hh, hy]))
    simp only [own.fst2, sumBy]; omega
  have h4' : 0 ≤ own.hd e.l ∧ own.hd e.l ≤ 65 * sumBy nodes e.l := by
   cases hh : e.l with
   | nil => simp [own.hd, sumBy]
   | cons x l =>
    have := hl x (by simp [hh])
    simp only [own.hd, sumBy]; omega
  rw [own_eq]
  split
  ·have := h1 ‹_›; omega
  ·split
   ·have := h2 ‹_›; omega
   ·repeat' split
    all_goals omega

/-- the first own width that there is, by places -/
theorem own.fst_skip (l : List E) (k : Nat) (h : k < l.length) (h0 : own l[k] = 0) : own.fst (l.drop k) = own.fst (l.drop (k + 1)) := by
 rw [List.drop_eq_getElem_cons h, own.fst, if_pos h0]
theorem own.fst_here (l : List E) (k : Nat) (h : k < l.length) (h0 : ¬ own l[k] = 0) : own.fst (l.drop k) = own l[k] := by
 rw [List.drop_eq_getElem_cons h, own.fst, if_neg h0]
theorem own.cat_zero (l : List E) (k : Nat) (n : Int) (h : k < l.length) (h0 : own l[k] = 0) : own.cat (l.drop k) n = 0 := by
 rw [List.drop_eq_getElem_cons h, own.cat, if_pos h0]
theorem own.cat_on (l : List E) (k : Nat) (n : Int) (h : k < l.length) (h0 : ¬ own l[k] = 0) : own.cat (l.drop k) n = own.cat (l.drop (k + 1)) (n + own l[k]) := by
 rw [List.drop_eq_getElem_cons h, own.cat, if_neg h0]

open Go.RowKit

def OwnSaid (x : E) : Prop := ∀ (cs : List Value) (w : World), VE w cs x → OwnOk x → nodes x ≤ 1048576 →
 Calls Tryz.prog 164 #[.agg cs.toArray] w fun r w' => r = .returned (.int .i64 (own x)) ∧ Ext w w'

set_option maxHeartbeats 800000 in
theorem first_calls (l : List E) (ih : ∀ x ∈ l, OwnSaid x) (hok : ∀ x ∈ l, OwnOk x) (hb : sumBy nodes l ≤ 1048576) (s : Value) (w : World) (h : Es w s l) :
  Calls Tryz.prog 179 #[s] w fun r w' => r = .returned (.int .i64 (own.fst l)) ∧ Ext w w' := by
 have IH := Lib.hid ih
 have HOK := Lib.hid hok
 clear ih hok
 obtain ⟨a, b, o, cap, hs, hc1, hc2, ha, hr⟩ := h.open
 subst hs
 go_enter Tryz.func179, Tryz.ntmps179
 go_wp2_with fail
 go_loopw [4, 5, 8] (fun _ _ i wr => ∃ k : Nat, k ≤ l.length ∧ i = .int .i64 k ∧ own.fst l = own.fst (l.drop k) ∧ Ext w wr) (fun _ _ i _ => l.length - (intOf i).toNat)
 case atStart => exact ⟨0, Nat.zero_le _, rfl, rfl, Below.refl _ _⟩
 case round =>
  obtain ⟨k, hk, rfl, hno, hB⟩ := hrel
  have HNO := Lib.hid hno
  clear hno
  by_cases hlt : k < l.length
  ·obtain ⟨cs, he1, hn, he2⟩ := VE.get (hr.mono fun x _ b o h => EAt.ext' hB h) hlt
   obtain rfl := ha (by omega)
   have hmem : l[k] ∈ l := List.getElem_mem hlt
   have hle := le_sumBy nodes l _ hmem
   have HX := Lib.hid (ext_alloc wr (.cells cs.toArray 48))
   have HBX := Lib.hid (Has.alloc wr cs 48)
   have HC := Lib.hid (IH.out _ hmem cs _ (he2.ext HX.out) (HOK.out _ hmem) (by omega))
   have HE := Lib.hid (hB.trans HX.out)
   have HS := Lib.hid (own.fst_skip l k hlt)
   have HH := Lib.hid (own.fst_here l k hlt)
   generalize own l[k] = q at *
   by_cases hq : q = 0
   ·have g1 : (q != 0) = false := by rw [bne_eq_false_iff_eq]; exact hq
    go_wp2_with (first | ((with_reducible show wpList _ _ _ (⟨_, Op.load 48 _, _, _, _, _⟩ :: _) _ _); refine wpList_load_has rfl 48 _ rfl rfl (he1) agg_E hn ?_) | ((with_reducible show wpList _ _ _ (⟨_, Op.load 48 _, _, _, _, _⟩ :: _) _ _); refine wpList_load_has rfl 48 _ rfl rfl (HBX.out) agg_E hn ?_) | ((with_reducible show wpList _ _ _ (⟨_, Op.store 48 _ _, _, _, _, _⟩ :: _) _ _); refine wpList_store_new rfl 48 _ _ rfl rfl (by first | rfl | simp) rfl agg_E (hn) rfl (he2.one) ?_) | (go_at_call 164; refine HC.out.mono ?_; rintro r w1 ⟨rfl, hx1⟩))
    go_roundw
    case rel => exact ⟨k + 1, by omega, by go_num, by rw [HNO.out, HS.out hq], HE.out.trans hx1⟩
    case measure => simp [intOf]; omega
   ·have g1 : (q != 0) = true := by rw [bne_iff_ne]; exact hq
    have HQ := Lib.hid hq
    clear hq
    go_wp2_with (first | ((with_reducible show wpList _ _ _ (⟨_, Op.load 48 _, _, _, _, _⟩ :: _) _ _); refine wpList_load_has rfl 48 _ rfl rfl (he1) agg_E hn ?_) | ((with_reducible show wpList _ _ _ (⟨_, Op.load 48 _, _, _, _, _⟩ :: _) _ _); refine wpList_load_has rfl 48 _ rfl rfl (HBX.out) agg_E hn ?_) | ((with_reducible show wpList _ _ _ (⟨_, Op.store 48 _ _, _, _, _, _⟩ :: _) _ _); refine wpList_store_new rfl 48 _ _ rfl rfl (by first | rfl | simp) rfl agg_E (hn) rfl (he2.one) ?_) | (go_at_call 164; refine HC.out.mono ?_; rintro r w1 ⟨rfl, hx1⟩))
    go_ret
    exact ⟨by rw [HNO.out, HH.out HQ.out]; rfl, HE.out.trans hx1⟩
  ·go_wp2_with fail
   go_ret
   obtain rfl : k = l.length := by omega
   exact ⟨by rw [HNO.out, List.drop_length]; rfl, hB⟩

set_option maxRecDepth 100000 in
set_option maxHeartbeats 2000000 in
theorem own_step (e : E) (ih : ∀ x ∈ e.l, OwnSaid x) : OwnSaid e := by
 intro cs w hV hok hb
 have hle := own_le e hok
 have IH := Lib.hid ih
 clear ih
 obtain ⟨h1, h2, h3, h4⟩ := (OwnOk_iff e).1 hok
 obtain ⟨s, rfl, hs⟩ := hV
 have HE := Lib.hid (own_eq e)
 rw [nodes_eq] at hb
 obtain ⟨a, b, o, cap, hsl, hc1, hc2, ha, hr⟩ := hs.open
 have HEs := Lib.hid hs
 obtain ⟨op, wd, v, sig, hi, lo, n, l⟩ := e
 simp only at hsl hc1 HE HEs IH h1 h2 h3 h4 ha hr hb hle
 subst hsl
 have H1 := Lib.hid h1
 have H2 := Lib.hid h2
 have H3 := Lib.hid h3
 have H4 := Lib.hid h4
 have HR := Lib.hid hr
 have HA := Lib.hid ha
 have HLE := Lib.hid hle
 clear h1 h2 h3 h4 hs hok hr ha hle
 have HX := ext_alloc w (.cells (E.cells ⟨op, wd, v, sig, hi, lo, n, l⟩ (.slice a l.length cap)).toArray 48)
 have HB := Has.alloc w (E.cells ⟨op, wd, v, sig, hi, lo, n, l⟩ (.slice a l.length cap)) 48
 go_enter Tryz.func164, Tryz.ntmps164
 go_upto_region 1 with (fail)
 generalize w.alloc _ = w0 at *
 have g0 := HB 0 _ rfl
 have g1 := HB 1 _ rfl
 have g4 := HB 4 _ rfl
 have g5 := HB 5 _ rfl
 have g6 := HB 6 _ rfl
 have HEs0 := Lib.hid (HEs.out.ext HX)
 have HF : ∀ W, Hid (Ext w0 W → Calls Tryz.prog 179 #[.slice a l.length cap] W fun r w' => r = .returned (.int .i64 (own.fst l)) ∧ Ext W w') :=
  fun W => Lib.hid fun hx => first_calls l IH.out H4.out (by omega) _ W (HEs0.out.ext hx)
 have HH : ∀ (x : E) (xs : List E), l = x :: xs → ∃ b o s, a = some ⟨b, o, Option.none⟩ ∧ Has w0 b o (x.cells s) ∧ ∀ W, Ext w0 W → Calls Tryz.prog 164 #[.agg (x.cells s).toArray] W fun r w' => r = .returned (.int .i64 (own x)) ∧ Ext W w' := by
  rintro x xs rfl
  obtain ⟨s1, q1, q2⟩ := Es.get (HR.out.mono fun x _ b o h => EAt.ext' HX h) (k := 0) (by simp)
  refine ⟨b, o, s1, HA.out (by simp), by simpa using q1, fun W hx => ?_⟩
  have hm := le_sumBy nodes (x :: xs) x (by simp)
  exact IH.out x (by simp) _ W ⟨s1, rfl, q2.ext hx⟩ (H4.out x (by simp)) (by omega)
 have HHH := Lib.hid HH
 clear HH
 by_cases o1 : op = 1
 ·obtain rfl := o1
  go_wp2_with fail
  go_ret
  exact ⟨ret_int (by rw [HE.out]; simp), HX⟩
 by_cases o8 : op = 8
 ·obtain rfl := o8
  go_wp2_with fail
  go_ret
  exact ⟨ret_int (by rw [HE.out]; simp), HX⟩
 by_cases o2 : op = 2
 ·obtain rfl := o2
  have h2 := H2.out rfl
  go_wp2_with fail
  go_ret
  exact ⟨ret_int (by rw [HE.out]; simp), HX⟩
 by_cases o6 : op = 6
 ·obtain rfl := o6
  have h3 := H3.out (by simp)
  have g7 := HB 7 _ rfl
  obtain ⟨x, xs, rfl⟩ : ∃ x xs, l = x :: xs := by cases l with | nil => simp at h3 | cons x xs => exact ⟨x, xs, rfl⟩
  have HF2 : ∀ (s' : Value) W, Hid (Es w0 s' xs → Ext w0 W → Calls Tryz.prog 179 #[s'] W fun r w' => r = .returned (.int .i64 (own.fst xs)) ∧ Ext W w') :=
   fun s' W => Lib.hid fun hes hx => first_calls xs (fun y hy => IH.out y (by simp [hy])) (fun y hy => H4.out y (by simp [hy])) (by have := hb; simp only [sumBy] at this; omega) _ W (hes.ext hx)
  obtain rfl := HA.out (by simp)
  have hr0 := HR.out
  simp only [List.length_cons] at *
  have HR1 := Lib.hid (hr0.2.mono (b := b) (o := o + 8) fun x _ b o h => EAt.ext' HX h)
  clear hr0
  by_cases hcap : cap = 1
  ·subst hcap
   have hx0 : xs = [] := by cases xs with | nil => rfl | cons y ys => simp at hc1
   subst hx0
   have hes : Es w0 (.slice (some ⟨b, o, Option.none⟩) 0 0) [] := ⟨b, o, ⟨_, 0, rfl, by simp, by simp [maxLen], by simp⟩, trivial⟩
   go_wp2_with (first | (go_at_call 179; refine ((HF2 _ _).out hes (Below.refl _ _)).mono ?_; rintro r w1 ⟨rfl, hx1⟩))
   go_ret
   exact ⟨ret_int (by rw [HE.out]; simp [own.fst2]), HX.trans hx1⟩
  ·have hes : Es w0 (.slice (some ⟨b, o + 8, Option.none⟩) xs.length (cap - 1)) xs := ⟨b, o + 8, ⟨_, _, rfl, by omega, by unfold maxLen; omega, by simp⟩, HR1.out⟩
   go_wp2_with (first | (go_at_call 179; refine ((HF2 _ _).out hes (Below.refl _ _)).mono ?_; rintro r w1 ⟨rfl, hx1⟩))
   go_ret
   exact ⟨ret_int (by rw [HE.out]; simp [own.fst2]), HX.trans hx1⟩
 by_cases o4 : op = 4
 ·obtain rfl := o4
  have h3 := H3.out (by simp)
  obtain ⟨x, xs, rfl⟩ : ∃ x xs, l = x :: xs := by cases l with | nil => simp at h3 | cons x xs => exact ⟨x, xs, rfl⟩
  obtain ⟨b1, o1, s1, rfl, q1, q2⟩ := HHH.out x xs rfl
  have Q2 := Lib.hid q2
  clear q2
  have g7 := HB 7 _ rfl
  go_wp2_with (first | ((with_reducible show wpList _ _ _ (⟨_, Op.load 48 _, _, _, _, _⟩ :: _) _ _); refine wpList_load_has rfl 48 _ rfl rfl (q1) agg_E rfl ?_) | (go_at_call 164; refine (Q2.out _ (Below.refl _ _)).mono ?_; rintro r w1 ⟨rfl, hx1⟩))
  all_goals go_ret
  ·exact ⟨ret_int (by rw [HE.out]; simp [own.hd, *]), HX.trans hx1⟩
  ·exact ⟨ret_int (by rw [HE.out]; simp [own.hd]; omega), HX⟩
 by_cases o5 : op = 5
 ·obtain rfl := o5
  have h3 := H3.out (by simp)
  obtain ⟨x, xs, rfl⟩ : ∃ x xs, l = x :: xs := by cases l with | nil => simp at h3 | cons x xs => exact ⟨x, xs, rfl⟩
  obtain ⟨b1, o1, s1, rfl, q1, q2⟩ := HHH.out x xs rfl
  have Q2 := Lib.hid q2
  clear q2
  have g7 := HB 7 _ rfl
  go_wp2_with (first | ((with_reducible show wpList _ _ _ (⟨_, Op.load 48 _, _, _, _, _⟩ :: _) _ _); refine wpList_load_has rfl 48 _ rfl rfl (q1) agg_E rfl ?_) | (go_at_call 164; refine (Q2.out _ (Below.refl _ _)).mono ?_; rintro r w1 ⟨rfl, hx1⟩) | (go_at_call 179; refine ((HF _).out (Below.refl _ _)).mono ?_; rintro r w1 ⟨rfl, hx1⟩))
  all_goals go_ret
  ·exact ⟨ret_int (by rw [HE.out]; simp [*]), HX.trans hx1⟩
  ·exact ⟨ret_int (by rw [HE.out]; simp [own.hd, *]; omega), HX.trans hx1⟩
  ·exact ⟨ret_int (by rw [HE.out]; simp; omega), HX⟩
 by_cases o7 : op = 7
 ·obtain rfl := o7
  have g7 := HB 7 _ rfl
  have HO : Hid (own ⟨7, wd, v, sig, hi, lo, n, l⟩ = own.cat l 0) := Lib.hid (by rw [HE.out]; simp)
  go_wp2_with fail
  clear g0 g1 g4 g5 g6 g7
  go_loopw [3, 5, 6, 27] (fun q _ _ i wr => ∃ k : Nat, ∃ m : Int, k ≤ l.length ∧ i = .int .i64 k ∧ q = .int .i64 m ∧ 0 ≤ m ∧ m ≤ 65 * (sumBy nodes (l.take k) : Nat) ∧ own.cat l 0 = own.cat (l.drop k) m ∧ Ext w0 wr) (fun _ _ _ i _ => l.length - (intOf i).toNat)
  case atStart => exact ⟨0, 0, Nat.zero_le _, rfl, rfl, by omega, by simp [sumBy], rfl, Below.refl _ _⟩
  case round =>
   obtain ⟨k, m, hk, rfl, rfl, hm0, hm1, hno, hB⟩ := hrel
   have HNO := Lib.hid hno
   clear hno
   by_cases hlt : k < l.length
   ·obtain ⟨cs, he1, hn, he2⟩ := VE.get (HR.out.mono fun x _ b o h => EAt.ext' (HX.trans hB) h) hlt
    obtain rfl := HA.out (by omega)
    have hmem : l[k] ∈ l := List.getElem_mem hlt
    have hle := le_sumBy nodes l _ hmem
    have ht := Lib.hid (sumBy_take nodes l k hlt)
    have hle2 := sumBy_take_le nodes l (k + 1)
    rw [ht.out] at hle2
    have HXX := Lib.hid (ext_alloc wr (.cells cs.toArray 48))
    have HBX := Lib.hid (Has.alloc wr cs 48)
    have HC := Lib.hid (IH.out _ hmem cs _ (he2.ext HXX.out) (H4.out _ hmem) (by omega))
    have HEE := Lib.hid (hB.trans HXX.out)
    have HS := Lib.hid (own.cat_zero l k m hlt)
    have HH := Lib.hid (own.cat_on l k m hlt)
    have hown := own_le _ (H4.out _ hmem)
    generalize own l[k] = q at *
    generalize l[k] = xk at *
    by_cases hq : q = 0
    ·have g1 : (q == 0) = true := by rw [beq_iff_eq]; exact hq
     have HQ := Lib.hid hq
     clear hq
     go_wp2_with (first | ((with_reducible show wpList _ _ _ (⟨_, Op.load 48 _, _, _, _, _⟩ :: _) _ _); refine wpList_load_has rfl 48 _ rfl rfl (he1) agg_E hn ?_) | ((with_reducible show wpList _ _ _ (⟨_, Op.load 48 _, _, _, _, _⟩ :: _) _ _); refine wpList_load_has rfl 48 _ rfl rfl (HBX.out) agg_E hn ?_) | ((with_reducible show wpList _ _ _ (⟨_, Op.store 48 _ _, _, _, _, _⟩ :: _) _ _); refine wpList_store_new rfl 48 _ _ rfl rfl (by first | rfl | simp) rfl agg_E (hn) rfl (he2.one) ?_) | (go_at_call 164; refine HC.out.mono ?_; rintro r w1 ⟨rfl, hx1⟩))
     go_ret
     exact ⟨ret_int (by rw [HO.out, HNO.out, HS.out HQ.out]), HX.trans (HEE.out.trans hx1)⟩
    ·have g1 : (q == 0) = false := by rw [beq_eq_false_iff_ne]; exact hq
     have HQ := Lib.hid hq
     clear hq
     go_wp2_with (first | ((with_reducible show wpList _ _ _ (⟨_, Op.load 48 _, _, _, _, _⟩ :: _) _ _); refine wpList_load_has rfl 48 _ rfl rfl (he1) agg_E hn ?_) | ((with_reducible show wpList _ _ _ (⟨_, Op.load 48 _, _, _, _, _⟩ :: _) _ _); refine wpList_load_has rfl 48 _ rfl rfl (HBX.out) agg_E hn ?_) | ((with_reducible show wpList _ _ _ (⟨_, Op.store 48 _ _, _, _, _, _⟩ :: _) _ _); refine wpList_store_new rfl 48 _ _ rfl rfl (by first | rfl | simp) rfl agg_E (hn) rfl (he2.one) ?_) | (go_at_call 164; refine HC.out.mono ?_; rintro r w1 ⟨rfl, hx1⟩))
     go_roundw
     case rel => exact ⟨k + 1, m + q, by omega, by go_num, rfl, by omega, by rw [ht.out]; omega, by rw [HNO.out, HH.out HQ.out], HEE.out.trans hx1⟩
     case measure => simp [intOf]; omega
   ·go_wp2_with fail
    go_ret
    obtain rfl : k = l.length := by omega
    exact ⟨ret_int (by rw [HO.out, HNO.out, List.drop_length]; rfl), HX.trans hB⟩
 go_wp2_with fail
 go_ret
 exact ⟨ret_int (by rw [HE.out]; simp [*]), HX⟩

theorem own_calls (e : E) : OwnSaid e := E.ind (P := OwnSaid) (fun e ih => own_step e ih) e
end Go.Proofs.YthpemngachlehaaGreat
