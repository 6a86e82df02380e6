/- Laws and walks that a claim of this seat leans on: Held, Row, Frame, Range, Round, Each, HeldIn. -/
import Derived.Test.YthpemngachlehaaGreatZWant
import Derived.Deep.RegionHeld3
import Derived.Laws.AppendOwn
import Derived.Great.BuildSlice
import Derived.RangeFuncNested
import Derived.TacticsIn
import Derived.OrdersIn
import Derived.Deep.DeepCutAuto
import Derived.Deep.CutBlock
import Derived.Laws.EntriesVeiled
import Derived.Test.YthpemngachlehaaGreatZ00
set_option linter.all false
namespace Go.Proofs.YthpemngachlehaaGreat
open Go.RowKit

/-- a struct that is loaded in a region that draws its order: taken first -/
theorem yif_load {P : Program} {ops : Array Oper} {S : World → Prop} {o : Oper} {a : Act} (hw : Region.wanted o (yielded ops a.tmps) = true) (ty : TypeId) (x : Operand) (ho : o.op = .load ty x)
  {b off : Nat} (hx : a.eval x = .pointer (some ⟨b, off, none⟩)) {cs : List Value} {n : Nat} (hg : ∀ w, S w → Has w b off cs) (hu : Agg P ty n) (hn : cs.length = n) : YieldsIf P ops S o (.agg cs.toArray) a :=
 .inl ⟨hw, fun w hS => by
  subst hn
  unfold execOp
  simp only [ho, hx, Instr.loadAt, Instr.sureAddr, Sem.run_bind, Sem.run_pure, Result.andThen_ok, run_loadVar_has w b off ty cs (hg w hS) hu]⟩

/-- the same of one cell -/
theorem yif_load1 {P : Program} {ops : Array Oper} {S : World → Prop} {o : Oper} {a : Act} (hw : Region.wanted o (yielded ops a.tmps) = true) {v : Value} (h : ∀ w, S w → (execOp a.eval o).run P w = .ok (.value v) w) : YieldsIf P ops S o v a := .inl ⟨hw, h⟩

/-- a struct is stored into a block of its own, in a region that draws its order -/
theorem step_store_blk {P : Program} {ops : Array Oper} {o : Oper} {a : Act} {w : World} {Q : Exit → Act → World → Prop} {K : Act → World → Prop} (hw : Region.wanted o (yielded ops a.tmps) = true)
  (ty : TypeId) (x y : Operand) (ho : o.op = .store ty x y) {c : Array Value} {B : Nat} (hb : Blk w B c ty) (hx : a.eval x = .pointer (some ⟨B, 0, none⟩)) {cs : List Value} (hy : a.eval y = .agg cs.toArray) {n : Nat}
  (hu : Agg P ty n) (hn : cs.length = n) (hc : c.size = n) (h1 : cs.all (·.oneCell') = true)
  (h : ∀ w', Blk w' B cs.toArray ty → w.grownBy w' (some B) → K (a.put o.dst undef) w') : if Region.wanted o (yielded ops a.tmps) = true then Oper.wp P o a w K Q else K (a.put o.dst undef) w := by
 rw [if_pos hw]
 unfold Oper.wp execOp
 simp only [ho, hx, hy]
 have := run_storeVar_row (P := P) w B ty ty c cs.toArray hb (by rw [hu.2]; simp [hn]) (by simp [hn, hc]) (by simpa using h1)
 simp only [Instr.storeAt, Instr.sureAddr, Sem.run_bind, Sem.run_pure, Result.andThen_ok, this]
 exact h _ (setRow_blk hb) (gb_setRow w B _)

/-! ### what a call has made stays when older blocks turn -/
/-- from the N-th block on nothing that was there has turned -/
def Since (N : Nat) (w w' : World) : Prop := w.heap.size ≤ w'.heap.size ∧ ∀ b, N ≤ b → b < w.heap.size → w'.heap[b]? = w.heap[b]?
theorem Since.refl (N : Nat) (w : World) : Since N w w := ⟨Nat.le_refl _, fun _ _ _ => rfl⟩
theorem Since.trans {N : Nat} {a b c : World} (h : Since N a b) (k : Since N b c) : Since N a c :=
 ⟨Nat.le_trans h.1 k.1, fun x h1 h2 => (k.2 x h1 (Nat.lt_of_lt_of_le h2 h.1)).trans (h.2 x h1 h2)⟩
theorem Since.mono {N M : Nat} {a b : World} (h : Since N a b) (hn : N ≤ M) : Since M a b := ⟨h.1, fun x h1 h2 => h.2 x (Nat.le_trans hn h1) h2⟩
theorem Since.of_ext {N : Nat} {w w' : World} (h : Ext w w') : Since N w w' := ⟨h.size, fun b _ hb => h.block b hb⟩
theorem Since.of_grown {N B : Nat} {w w' : World} (h : w.grownBy w' (some B)) (hb : B < N) : Since N w w' := ⟨h.size, fun b h1 h2 => h.block b h2 (by intro e; injection e; omega)⟩
theorem Since.blk {N B : Nat} {w w' : World} {c : Array Value} {T : TypeId} (h : Since N w w') (hb : Blk w B c T) (hn : N ≤ B) : Blk w' B c T := (h.2 B hn hb.lt).trans hb

/-- the struct reads as x, and does so as long as nothing from the N-th block on turns -/
def FE (N : Nat) (w : World) (cs : List Value) (x : E) : Prop := ∀ W, Since N w W → VE W cs x
theorem FE.ve {N : Nat} {w : World} {cs : List Value} {x : E} (h : FE N w cs x) : VE w cs x := h w (Since.refl _ _)
theorem FE.since {N : Nat} {w w' : World} {cs : List Value} {x : E} (h : FE N w cs x) (hs : Since N w w') : FE N w' cs x := fun _ hW => h _ (hs.trans hW)
theorem FE.mono {N M : Nat} {w : World} {cs : List Value} {x : E} (h : FE M w cs x) (hn : N ≤ M) : FE N w cs x := fun W hW => h W (hW.mono hn)
theorem FE.ext {N : Nat} {w w' : World} {cs : List Value} {x : E} (h : FE N w cs x) (hx : Ext w w') : FE N w' cs x := h.since (Since.of_ext hx)

/-- structs one behind the other in one block read as the slice -/
theorem es_of_blk (l : List E) : ∀ (css : List (List Value)) (pre : List Value) (w : World) (B : Nat) (post : List Value) (T : TypeId), Blk w B (pre ++ css.flatten ++ post).toArray T → css.length = l.length →
  (∀ i (h : i < css.length) (h' : i < l.length), VE w css[i] l[i]) → Rows 8 (EAt w) l B pre.length := by
 induction l with
 | nil => intros; trivial
 | cons x l ih =>
  intro css pre w B post T hb hl hv
  cases css with
  | nil => simp at hl
  | cons cs css =>
   obtain ⟨s, hcs, hs⟩ := hv 0 (by simp) (by simp)
   simp only [Jb] at hcs hs
   have h8 : cs.length = 8 := by rw [hcs]; rfl
   refine ⟨EAt_iff.2 ⟨s, ?_, hs⟩, ?_⟩
   ·rw [← hcs]
    intro j u hj
    rw [hb.cell]
    have hlt : j < cs.length := (List.getElem?_eq_some_iff.1 hj).1
    rw [List.getElem?_toArray, List.append_assoc, List.getElem?_append_right (by omega), List.flatten_cons, List.append_assoc, List.getElem?_append_left (by omega)]
    rw [Nat.add_sub_cancel_left]
    exact hj
   ·have := ih css (pre ++ cs) w B post T (by simpa [List.append_assoc] using hb) (by simpa using hl) (fun i h h' => hv (i + 1) (by simpa using h) (by simpa using h'))
    rw [List.length_append, h8] at this
    exact this

open Go.RowKit

/-! ### a slice of structs that grows by append -/

/-- what is known of a slice type and of its elements -/
def AppT (P : Program) (t e : TypeId) (size bytes : Nat) : Prop :=
 P.underlying t = some (.slice e) ∧ (P.info? e).map (fun i => (i.zero.map (·.cells.size), i.size, i.bytes)) = some (some size, size, bytes) ∧ 0 < size ∧ bytes ≤ 1000

theorem run_app {P : Program} {w : World} {base : Nat} {t ty e : TypeId} {size bytes : Nat} (hT : AppT P t e size bytes)
  {v : Value} {n : Nat} {xs : List Value} (hown : w.ownsRow base e size v n xs) {a : Addr} {m c : Nat} (hm : v = .slice none 0 0 → 0 < m) {news : List Value} (hl : news.length = m * size)
  (hnews : ∀ j u, news[j]? = some u → w.cell? (a.add j) = some u) (h1 : news.all (·.oneCell') = true) (hn : n + m ≤ 16777216) (hbase : base ≤ w.heap.size) :
  ∃ v' w', (Builtin.append_ #[t, t] ty #[v, .slice (some a) m c]).run P w = .ok v' w' ∧ w'.ownsRow base e size v' (n + m) (xs ++ news) ∧ w.grownBy w' v.ownBlock ∧
   ∃ g cap, v' = .slice (some ⟨g, 0, none⟩) (n + m) cap ∧ (v.ownBlock = some g ∨ w.heap.size ≤ g) := by
 obtain ⟨ht, hinfo, hsz, hby⟩ := hT
 cases hi : P.info? e with
 | none => simp [hi] at hinfo
 | some i =>
  simp only [hi, Option.map_some, Option.some.injEq, Prod.mk.injEq] at hinfo
  obtain ⟨hz0, hs, hb⟩ := hinfo
  cases hz : i.zero with
  | none => simp [hz] at hz0
  | some z =>
   simp only [hz, Option.map_some, Option.some.injEq] at hz0
   have hbb : (n + m) * bytes ≤ 140737488355328 := Nat.le_trans (Nat.mul_le_mul hn hby) (by decide)
   have h1' : ∀ u ∈ news, u.oneCell' = true := fun u hu => by simpa using List.all_eq_true.1 h1 u hu
   obtain ⟨v', w', hr, h2, h3, h4⟩ := run_append_own (P := P) w base t ty e i z size bytes ht hi hz hs hb hz0 hsz v n xs hown a m c news hl hnews h1' (by simp only [maxLen]; omega) hbb hbase
   refine ⟨v', w', hr, h2, h3, ?_⟩
   rcases hown.2 with ⟨rfl, rfl⟩ | ⟨g, cap, cur, rfl, hbg, hg, hnc, hcm, hcs, htake⟩
   ·have hr2 := run_append_nil (P := P) w t ty e i z ht hi hz a m c news (by rw [hs]; exact hl) hnews (hm rfl) (by omega) (by rw [hb]; simp at hbb; omega)
    rw [hr] at hr2
    simp only [Result.ok.injEq] at hr2
    exact ⟨w.heap.size, _, by rw [hr2.1, Nat.zero_add], .inr (Nat.le_refl _)⟩
   ·by_cases hroom : n + m ≤ cap
    ·have hfit : n * i.size + news.length ≤ cur.size := by rw [hs, hl, hcs, ← Nat.add_mul]; exact Nat.mul_le_mul_right _ hroom
     have hr2 := run_append_room (P := P) w t ty e i ht hi g n cap cur hg a m c news (by rw [hs]; exact hl) hnews h1' hroom hfit
     rw [hr] at hr2
     simp only [Result.ok.injEq] at hr2
     exact ⟨g, cap, hr2.1, .inl rfl⟩
    ·have holds : ∀ j u, xs[j]? = some u → w.cell? ((⟨g, 0, none⟩ : Addr).add j) = some u := hown.cells (g := g) rfl
     have hr2 := run_append_grow (P := P) w t ty e i z ht hi hz ⟨g, 0, none⟩ n cap xs (by rw [hs]; exact hown.1) holds a m c news (by rw [hs]; exact hl) hnews (by omega) (by omega)
      (growslice_fits (by omega) (by rw [hb]; exact hbb))
     rw [hr] at hr2
     simp only [Result.ok.injEq] at hr2
     exact ⟨w.heap.size, _, hr2.1, .inr (Nat.le_refl _)⟩

/-- append at the operation -/
theorem wpList_app {P : Program} {ops : Array Oper} {rest : List Oper} {o : Oper} {a : Act} {w : World} {Q : Exit → Act → World → Prop} (hw : Region.wanted o (yielded ops a.tmps) = true) (s x : Operand) (t : TypeId)
  (ho : o.op = .call { callee := .builtin .append, args := #[s, x], argTypes := #[t, t] }) {base : Nat} {e : TypeId} {size bytes : Nat} (hT : AppT P t e size bytes)
  {v : Value} {n : Nat} {xs : List Value} (hs : a.eval s = v) (hown : w.ownsRow base e size v n xs) {ad : Addr} {m c : Nat} (hx : a.eval x = .slice (some ad) m c) (hm : v = .slice none 0 0 → 0 < m) {news : List Value} (hl : news.length = m * size)
  (hnews : ∀ j u, news[j]? = some u → w.cell? (ad.add j) = some u) (h1 : news.all (·.oneCell') = true) (hn : n + m ≤ 16777216) (hbase : base ≤ w.heap.size)
  (h : ∀ g cap w', w'.ownsRow base e size (.slice (some ⟨g, 0, none⟩) (n + m) cap) (n + m) (xs ++ news) → w.grownBy w' v.ownBlock → (v.ownBlock = some g ∨ w.heap.size ≤ g) →
   wpList P ops Q rest (a.put o.dst (.slice (some ⟨g, 0, none⟩) (n + m) cap)) w') : wpList P ops Q (o :: rest) a w :=
 BigFrame.wpList_want hw fun _ hK => by
  obtain ⟨v', w', hr, h2, h3, g, cap, rfl, hg⟩ := run_app (P := P) (ty := o.type) hT hown hm hl hnews h1 hn hbase
  unfold Oper.wp execOp
  simp only [ho, resolve, invoke, builtin, Sem.run_bind, Sem.run_pure, Result.andThen_ok, List.map_toArray, List.map_cons, List.map_nil, hs, hx]
  rw [hr]
  exact hK _ _ (h g cap w' h2 h3 hg)

/-- a slice of one, out of a value -/
theorem wpList_bs1 {P : Program} {ops : Array Oper} {rest : List Oper} {o : Oper} {a : Act} {w : World} {Q : Exit → Act → World → Prop} (hw : Region.wanted o (yielded ops a.tmps) = true) (t : TypeId) (x : Operand)
  (ho : o.op = .buildSlice t 1 #[(0, x)]) {e : TypeId} {size bytes : Nat} (hT : AppT P t e size bytes) {v : Value} (hx : a.eval x = v) {cs : List Value} (hv : v.cells = cs.toArray) (hl : cs.length = size) (hs : size ≤ 1000)
  (h : wpList P ops Q rest (a.put o.dst (.slice (some ⟨w.heap.size, 0, none⟩) 1 1)) (w.alloc (.cells cs.toArray e))) : wpList P ops Q (o :: rest) a w :=
 BigFrame.wpList_want hw fun _ hK => by
  obtain ⟨ht, hinfo, hsz, hby⟩ := hT
  cases hi : P.info? e with
  | none => simp [hi] at hinfo
  | some i =>
   simp only [hi, Option.map_some, Option.some.injEq, Prod.mk.injEq] at hinfo
   obtain ⟨hz0, hsi, hb⟩ := hinfo
   cases hz : i.zero with
   | none => simp [hz] at hz0
   | some z =>
    have hv2 : v.cells.size = size := by rw [hv]; simp [hl]
    have hf := Great.fill_whole (s := size) hsz [v] ((Array.range (1 * size)).map (z.cells[· % z.cells.size]!)) (by simp [hv2]) (by simp)
    simp only [List.zipIdx_cons, List.zipIdx_nil, List.map_cons, List.map_nil, List.flatMap_cons, List.flatMap_nil, List.append_nil, hv] at hf
    have hr := run_buildSlice (P := P) w t e 1 #[(0, v)] cs.toArray i z ht hi hz (by rw [hsi]; omega) (by rw [hsi]; omega) (by rw [hsi]; exact hf)
    unfold Oper.wp execOp
    simp only [ho, List.map_toArray, List.map_cons, List.map_nil, hx, Sem.run_bind, hr, Result.andThen_ok, Sem.run_pure]
    exact hK _ _ h

/-- an empty slice that is not nil -/
theorem wpList_bs0 {P : Program} {ops : Array Oper} {rest : List Oper} {o : Oper} {a : Act} {w : World} {Q : Exit → Act → World → Prop} (hw : Region.wanted o (yielded ops a.tmps) = true) (t : TypeId)
  (ho : o.op = .buildSlice t 0 #[]) {e : TypeId} {size bytes : Nat} (hT : AppT P t e size bytes)
  (h : wpList P ops Q rest (a.put o.dst (.slice (some ⟨w.heap.size, 0, none⟩) 0 0)) (w.alloc (.cells #[] e))) : wpList P ops Q (o :: rest) a w :=
 BigFrame.wpList_want hw fun _ hK => by
  obtain ⟨ht, hinfo, hsz, hby⟩ := hT
  cases hi : P.info? e with
  | none => simp [hi] at hinfo
  | some i =>
   have hr : (Instr.buildSlice t 0 #[]).run P w = .ok (.slice (some ⟨w.heap.size, 0, none⟩) 0 0) (w.alloc (.cells #[] e)) := by
    simp [Instr.buildSlice, run_underlying ht, sizeOf, typeInfo, hi, newRow, Instr.fill]
    congr 2
    apply Array.eq_empty_of_size_eq_zero; simp
   unfold Oper.wp execOp
   simp only [ho, List.map_toArray, List.map_nil, Sem.run_bind, hr, Result.andThen_ok, Sem.run_pure]
   exact hK _ _ h

/-- x is read from the cells cs, and stays so as long as no block from N on turns, but for one -/
def StV {α : Type} (V : World → List Value → α → Prop) (N : Nat) (R : Option Nat) (w : World) (cs : List Value) (x : α) : Prop :=
 ∀ W, w.heap.size ≤ W.heap.size → (∀ b, N ≤ b → b < w.heap.size → some b ≠ R → W.heap[b]? = w.heap[b]?) → V W cs x

/-- so long as nothing from N on turns -/
def FV {α : Type} (V : World → List Value → α → Prop) (N : Nat) (w : World) (cs : List Value) (x : α) : Prop := ∀ W, Since N w W → V W cs x

/-- the slice v owns a row from block N on, in which r stands, and what r leads to lies from N on as well -/
def RowIs {α : Type} (V : World → List Value → α → Prop) (e : TypeId) (size N : Nat) (v : Value) (r : List α) (w : World) : Prop :=
 ∃ css : List (List Value), w.ownsRow N e size v r.length css.flatten ∧ css.length = r.length ∧ (∀ cs ∈ css, cs.length = size) ∧
  ∀ i (h : i < css.length) (h' : i < r.length), StV V N v.ownBlock w css[i] r[i]

theorem RowIs.nil {α : Type} {V : World → List Value → α → Prop} {e : TypeId} {size N : Nat} {w : World} : RowIs V e size N (.slice none 0 0) ([] : List α) w :=
 ⟨[], World.ownsRow_nil _ _ _ _, rfl, by simp, fun i h => by simp at h⟩

theorem RowIs.since {α : Type} {V : World → List Value → α → Prop} {e : TypeId} {size N : Nat} {v : Value} {r : List α} {w w' : World} (h : RowIs V e size N v r w) (hs : Since N w w') : RowIs V e size N v r w' := by
 obtain ⟨css, h1, h2, h3, h4⟩ := h
 refine ⟨css, ?_, h2, h3, fun i hi hi' W hW hb => h4 i hi hi' W (Nat.le_trans hs.1 hW) fun b hN hlt hne => (hb b hN (Nat.lt_of_lt_of_le hlt hs.1) hne).trans (hs.2 b hN hlt)⟩
 refine ⟨h1.1, ?_⟩
 rcases h1.2 with hn | ⟨g, cap, cur, rfl, hb, hgg, rest⟩
 ·exact .inl hn
 ·exact .inr ⟨g, cap, cur, rfl, hb, (hs.2 g hb (Array.getElem?_eq_some_iff.1 hgg).1).trans hgg, rest⟩

theorem RowIs.lt {α : Type} {V : World → List Value → α → Prop} {e : TypeId} {size N : Nat} {v : Value} {r : List α} {w : World} (h : RowIs V e size N v r w) : ∀ k, v.ownBlock = some k → N ≤ k ∧ k < w.heap.size := by
 obtain ⟨css, h1, -⟩ := h; exact h1.lt

/-- one more: what it leads to lies behind all that was there when the row was last made -/
theorem RowIs.snoc {α : Type} {V : World → List Value → α → Prop} {e : TypeId} {size N : Nat} {v : Value} {r : List α} {w : World} {css : List (List Value)}
  (h2 : css.length = r.length) (h3 : ∀ cs ∈ css, cs.length = size) (h4 : ∀ i (h : i < css.length) (h' : i < r.length), StV V N v.ownBlock w css[i] r[i])
  {cs : List Value} (hcs : cs.length = size) {x : α} (hx : StV V N v.ownBlock w cs x) {v' : Value} {w' : World} (hown : w'.ownsRow N e size v' (r.length + 1) (css.flatten ++ cs)) (hg : w.grownBy w' v.ownBlock)
  (hv : ∃ g cap, v' = .slice (some ⟨g, 0, none⟩) (r.length + 1) cap ∧ (v.ownBlock = some g ∨ w.heap.size ≤ g)) : RowIs V e size N v' (r ++ [x]) w' := by
 have key : ∀ cs x, StV V N v.ownBlock w cs x → StV V N v'.ownBlock w' cs x := by
  intro cs x h W hW hb
  refine h W (Nat.le_trans hg.size hW) fun b hN hlt hne => ?_
  refine (hb b hN (Nat.lt_of_lt_of_le hlt hg.size) ?_).trans (hg.block b hlt hne)
  obtain ⟨g, cap, rfl, hvg⟩ := hv
  simp only [Value.ownBlock, ne_eq, Option.some.injEq]
  rintro rfl
  rcases hvg with hvg | hvg
  ·exact hne hvg.symm
  ·omega
 refine ⟨css ++ [cs], by simpa using hown, by simp [h2], ?_, ?_⟩
 ·intro c hc
  rcases List.mem_append.1 hc with hc | hc
  ·exact h3 c hc
  ·obtain rfl := List.mem_singleton.1 hc
   exact hcs
 ·intro i hi hi'
  by_cases hik : i < r.length
  ·rw [List.getElem_append_left (by omega), List.getElem_append_left hik]
   exact key _ _ (h4 i (by omega) hik)
  ·have : i = r.length := by simp at hi; omega
   rw [List.getElem_append_right (by omega), List.getElem_append_right (by omega)]
   simp only [h2, this, Nat.sub_self, Jb]
   exact key _ _ hx

theorem FV.st {α : Type} {V : World → List Value → α → Prop} {M N : Nat} {R : Option Nat} {w : World} {cs : List Value} {x : α} (h : FV V M w cs x) (hN : N ≤ M) (hR : ∀ k, R = some k → k < M) : StV V N R w cs x :=
 fun W hW hb => h W ⟨hW, fun b hM hlt => hb b (Nat.le_trans hN hM) hlt (by intro e; have := hR b e.symm; omega)⟩
theorem FV.since {α : Type} {V : World → List Value → α → Prop} {N : Nat} {w w' : World} {cs : List Value} {x : α} (h : FV V N w cs x) (hs : Since N w w') : FV V N w' cs x := fun _ hW => h _ (hs.trans hW)
theorem FV.mono {α : Type} {V : World → List Value → α → Prop} {N M : Nat} {w : World} {cs : List Value} {x : α} (h : FV V M w cs x) (hn : N ≤ M) : FV V N w cs x := fun W hW => h W (hW.mono hn)
theorem FV.ext {α : Type} {V : World → List Value → α → Prop} {N : Nat} {w w' : World} {cs : List Value} {x : α} (h : FV V N w cs x) (hx : Ext w w') : FV V N w' cs x := h.since (Since.of_ext hx)
theorem FV.here {α : Type} {V : World → List Value → α → Prop} {N : Nat} {w : World} {cs : List Value} {x : α} (h : FV V N w cs x) : V w cs x := h w (Since.refl _ _)

/-- append of one struct that lies in a box of its own, at the operation -/
theorem wpList_app1 {α : Type} {V : World → List Value → α → Prop} {P : Program} {ops : Array Oper} {rest : List Oper} {o : Oper} {a : Act} {w : World} {Q : Exit → Act → World → Prop} (hw : Region.wanted o (yielded ops a.tmps) = true) (s x : Operand) (t : TypeId)
  (ho : o.op = .call { callee := .builtin .append, args := #[s, x], argTypes := #[t, t] }) {N : Nat} {e : TypeId} {size bytes : Nat} (hT : AppT P t e size bytes)
  {v : Value} {r : List α} (hs : a.eval s = v) (hown : RowIs V e size N v r w) {B c : Nat} (hx : a.eval x = .slice (some ⟨B, 0, none⟩) 1 c) {cs : List Value} (hl : cs.length = size)
  (hcs : Has w B 0 cs) (h1 : cs.all (·.oneCell') = true) {y : α} (hy : StV V N v.ownBlock w cs y) (hn : r.length + 1 ≤ 16777216) (hbase : N ≤ w.heap.size)
  (h : ∀ g cap w', RowIs V e size N (.slice (some ⟨g, 0, none⟩) (r.length + 1) cap) (r ++ [y]) w' → w.grownBy w' v.ownBlock →
   wpList P ops Q rest (a.put o.dst (.slice (some ⟨g, 0, none⟩) (r.length + 1) cap)) w') : wpList P ops Q (o :: rest) a w := by
 obtain ⟨css, h1', h2, h3, h4⟩ := hown
 refine wpList_app hw s x t ho hT hs h1' hx (fun _ => Nat.lt_of_lt_of_le Nat.zero_lt_one (Nat.le_refl 1)) (by rw [hl, Nat.one_mul]) (fun j u hj => ?_) h1 hn hbase ?_
 ·have hadd : (⟨B, 0, none⟩ : Addr).add j = ⟨B, j, none⟩ := by unfold Addr.add; split <;> simp_all
  rw [hadd]
  have := hcs j u hj
  rwa [Nat.zero_add] at this
 ·intro g cap w' ho' hg hv
  exact h g cap w' (RowIs.snoc h2 h3 h4 hl hy ho' hg ⟨g, cap, rfl, hv⟩) hg

/-- rows of structs in one block -/
theorem rows_of_flat {α : Type} {V : World → List Value → α → Prop} {At : World → α → Nat → Nat → Prop} {size : Nat} (hV : ∀ W cs x b o, Has W b o cs → V W cs x → At W x b o) (l : List α) :
  ∀ (css : List (List Value)) (W : World) (B o : Nat), Has W B o css.flatten → css.length = l.length → (∀ cs ∈ css, cs.length = size) →
  (∀ i (h : i < css.length) (h' : i < l.length), V W css[i] l[i]) → Rows size (At W) l B o := by
 induction l with
 | nil => intros; trivial
 | cons x l ih =>
  intro css W B o hb hl h8 hv
  cases css with
  | nil => simp at hl
  | cons cs css =>
   have hv0 := hv 0 (by simp) (by simp)
   simp only [Jb] at hv0
   have hc : cs.length = size := h8 cs (by simp)
   rw [List.flatten_cons] at hb
   refine ⟨hV _ _ _ _ _ ?_ hv0, ih css W B (o + size) ?_ (by simpa using hl) (fun c hc => h8 c (by simp [hc])) (fun i h h' => hv (i + 1) (by simpa using h) (by simpa using h'))⟩
   ·intro j u hj
    exact hb j u (by rw [List.getElem?_append_left (List.getElem?_eq_some_iff.1 hj).1]; exact hj)
   ·intro j u hj
    have := hb (size + j) u (by rw [List.getElem?_append_right (by omega), hc, Nat.add_sub_cancel_left]; exact hj)
    rw [show o + size + j = o + (size + j) by omega]; exact this

/-- a row reads as a slice, in every world in which nothing from N on has turned -/
theorem RowIs.sl {α : Type} {V : World → List Value → α → Prop} {At : World → α → Nat → Nat → Prop} {e : TypeId} {size N : Nat} (hV : ∀ W cs x b o, Has W b o cs → V W cs x → At W x b o)
  {v : Value} {r : List α} {w W : World} (h : RowIs V e size N v r w) (hs : Since N w W) : Sl size (At W) v r := by
 obtain ⟨css, h1, h2, h3, h4⟩ := h.since hs
 rcases h1.2 with ⟨rfl, h0⟩ | ⟨g, cap, cur, rfl, hb, hgg, hnc, hcm, hcs, htake⟩
 ·obtain rfl : r = [] := List.eq_nil_of_length_eq_zero h0
  exact Sl.nil _ _
 ·refine ⟨g, 0, ⟨_, cap, rfl, hnc, hcm, fun _ => rfl⟩, rows_of_flat hV r css W g 0 ?_ h2 h3 (fun i hi hi' => h4 i hi hi' W (Nat.le_refl _) (fun _ _ _ _ => rfl))⟩
  intro j u hj
  rw [← htake] at hj
  rw [Nat.zero_add, cell_of_row W g j cur e (0, 0) hgg]
  rw [List.getElem?_take] at hj
  split at hj
  ·simpa using hj
  ·cases hj
theorem RowIs.one {α : Type} {V : World → List Value → α → Prop} {e : TypeId} {size N : Nat} {v : Value} {r : List α} {w : World} (h : RowIs V e size N v r w) : v.oneCell' = true := by
 obtain ⟨css, h1, -⟩ := h
 rcases h1.2 with ⟨rfl, h0⟩ | ⟨g, cap, cur, rfl, -⟩ <;> rfl
theorem RowIs.open {α : Type} {V : World → List Value → α → Prop} {e : TypeId} {size N : Nat} {v : Value} {r : List α} {w : World} (h : RowIs V e size N v r w) : ∃ a cap, v = .slice a r.length cap ∧ (0 < r.length → ∃ g, a = some ⟨g, 0, none⟩) := by
 obtain ⟨css, h1, -⟩ := h
 rcases h1.2 with ⟨rfl, h0⟩ | ⟨g, cap, cur, rfl, -⟩
 ·exact ⟨none, 0, by rw [h0], fun h => by omega⟩
 ·exact ⟨_, cap, rfl, fun _ => ⟨g, rfl⟩⟩

theorem VE.at {W : World} {cs : List Value} {x : E} {b o : Nat} (h : Has W b o cs) (hv : VE W cs x) : EAt W x b o := by
 obtain ⟨s, rfl, hs⟩ := hv; exact EAt_iff.2 ⟨s, h, hs⟩
theorem VT.at {W : World} {cs : List Value} {x : T} {b o : Nat} (h : Has W b o cs) (hv : VT W cs x) : TAt W x b o := by
 obtain ⟨s, s', rfl, hs, hs'⟩ := hv; exact TAt_iff.2 ⟨s, s', h, hs, hs'⟩
theorem VProc.at {W : World} {cs : List Value} {x : Proc} {b o : Nat} (h : Has W b o cs) (hv : VProc W cs x) : ProcAt W x b o := by
 obtain ⟨s, rfl, hs⟩ := hv; exact ⟨s, h, hs⟩
theorem VCheck.at {W : World} {cs : List Value} {x : Chk} {b o : Nat} (h : Has W b o cs) (hv : VCheck W cs x) : ChkAt W x b o := by
 obtain ⟨s, rfl, hs⟩ := hv; exact ⟨s, h, hs⟩

theorem appE : AppT Tryz.prog 46 48 8 80 := ⟨Tryz.underlying46, by kernel_rfl, by decide, by decide⟩
theorem appT : AppT Tryz.prog 36 68 6 80 := ⟨Tryz.underlying36, by kernel_rfl, by decide, by decide⟩
theorem appProc : AppT Tryz.prog 23 38 2 32 := ⟨Tryz.underlying23, by kernel_rfl, by decide, by decide⟩
theorem appCheck : AppT Tryz.prog 24 100 9 96 := ⟨Tryz.underlying24, by kernel_rfl, by decide, by decide⟩
theorem appInt : AppT Tryz.prog 29 3 1 8 := ⟨Tryz.underlying29, by kernel_rfl, by decide, by decide⟩

open Go.RowKit

/-- but for the blocks of C (and new ones) nothing has turned -/
structure Fr (C : Nat → Prop) (w w' : World) : Prop where
 os : w'.os = w.os
 tape : w'.tape = w.tape
 output : w'.output = w.output
 size : w.heap.size ≤ w'.heap.size
 block : ∀ b, b < w.heap.size → ¬ C b → w'.heap[b]? = w.heap[b]?

theorem Fr.refl (C : Nat → Prop) (w : World) : Fr C w w := ⟨rfl, rfl, rfl, Nat.le_refl _, fun _ _ _ => rfl⟩
theorem Fr.trans {C : Nat → Prop} {a b c : World} (h : Fr C a b) (k : Fr C b c) : Fr C a c :=
 ⟨k.os.trans h.os, k.tape.trans h.tape, k.output.trans h.output, Nat.le_trans h.size k.size, fun x h1 h2 => (k.block x (Nat.lt_of_lt_of_le h1 h.size) h2).trans (h.block x h1 h2)⟩
theorem Fr.mono {C D : Nat → Prop} {a b : World} (h : Fr C a b) (hC : ∀ x, C x → D x) : Fr D a b := ⟨h.os, h.tape, h.output, h.size, fun x h1 h2 => h.block x h1 fun h3 => h2 (hC x h3)⟩
theorem Fr.drew {C : Nat → Prop} {a b : World} (h : Fr C a b) : Fr C a b.drew := ⟨h.os, h.tape, h.output, h.size, h.block⟩
theorem Fr.of_ext {C : Nat → Prop} {a b : World} (h : Ext a b) : Fr C a b := ⟨h.os, h.tape, h.output, h.size, fun x h1 _ => h.block x h1⟩
theorem Fr.of_gb {C : Nat → Prop} {a b : World} {R : Option Nat} (h : a.grownBy b R) (hR : ∀ k, R = some k → C k) : Fr C a b :=
 ⟨h.os, h.tape, h.output, h.size, fun x h1 h2 => h.block x h1 fun e => h2 (hR x e.symm)⟩
theorem Fr.ext {C : Nat → Prop} {w0 a b : World} (h : Fr C a b) (h0 : Ext w0 a) (hC : ∀ x, C x → w0.heap.size ≤ x) : Ext w0 b :=
 ⟨h.os.trans h0.os, h.tape.trans h0.tape, h.output.trans h0.output, Nat.le_trans h0.size h.size, fun x hx => (h.block x (Nat.lt_of_lt_of_le hx h0.size) fun hc => by have := hC x hc; omega).trans (h0.block x hx)⟩
theorem Fr.blk {C : Nat → Prop} {a b : World} {B : Nat} {cs : Array Value} {T : TypeId} (h : Fr C a b) (hb : Blk a B cs T) (hC : ¬ C B) : Blk b B cs T := (h.block B hb.lt hC).trans hb
theorem Fr.has {C : Nat → Prop} {a b : World} {B o : Nat} {cs : List Value} (h : Fr C a b) (hb : Has a B o cs) (hC : ¬ C B) : Has b B o cs := fun j u hj => by
 have := hb j u hj
 exact (World.cell?_of_block (a := ⟨B, o + j, none⟩) (h.block B (World.block_lt_of_cell? a _ this) hC)).trans this
theorem Fr.since {C : Nat → Prop} {a b : World} {N : Nat} (h : Fr C a b) (hC : ∀ x, N ≤ x → x < a.heap.size → ¬ C x) : Since N a b := ⟨h.size, fun x h1 h2 => h.block x h2 (hC x h1 h2)⟩
theorem Fr.gb {C : Nat → Prop} {a b : World} {B : Nat} (h : Fr C a b) (hC : ∀ x, x < a.heap.size → C x → x = B) : a.grownBy b (some B) :=
 ⟨h.os, h.tape, h.output, h.size, fun x hx hne => h.block x hx fun hc => hne (by rw [hC x hx hc])⟩

theorem Has.grownR {w w' : World} {b o : Nat} {cs : List Value} {R : Option Nat} (h : Has w b o cs) (hg : w.grownBy w' R) (hne : ¬ R = some b) : Has w' b o cs := fun j u hj => hg.cell (h j u hj) (fun e => hne e.symm)
theorem Has.drew {w : World} {b o : Nat} {cs : List Value} (h : Has w b o cs) : Has w.drew b o cs := h
theorem World.heap_drew (w : World) : w.drew.heap = w.heap := rfl

theorem step_bs1 {P : Program} {ops : Array Oper} {o : Oper} {a : Act} {w : World} {K : Act → World → Prop} {Q : Exit → Act → World → Prop} {E : Prop} (hw : Region.wanted o (yielded ops a.tmps) = true) (t : TypeId) (x : Operand)
  (ho : o.op = .buildSlice t 1 #[(0, x)]) {e : TypeId} {size bytes : Nat} (hT : AppT P t e size bytes) {v : Value} (hx : a.eval x = v) {cs : List Value} (hv : v.cells = cs.toArray) (hl : cs.length = size) (hs : size ≤ 1000)
  (h : K (a.put o.dst (.slice (some ⟨w.heap.size, 0, none⟩) 1 1)) (w.alloc (.cells cs.toArray e))) : if Region.wanted o (yielded ops a.tmps) = true then Oper.wp P o a w K Q else E := by
 rw [if_pos hw]
 obtain ⟨ht, hinfo, hsz, hby⟩ := hT
 cases hi : P.info? e with
 | none => simp [hi] at hinfo
 | some i =>
  simp only [hi, Option.map_some, Option.some.injEq, Prod.mk.injEq] at hinfo
  obtain ⟨hz0, hsi, hb⟩ := hinfo
  cases hz : i.zero with
  | none => simp [hz] at hz0
  | some z =>
   have hv2 : v.cells.size = size := by rw [hv]; simp [hl]
   have hf := Great.fill_whole (s := size) hsz [v] ((Array.range (1 * size)).map (z.cells[· % z.cells.size]!)) (by simp [hv2]) (by simp)
   simp only [List.zipIdx_cons, List.zipIdx_nil, List.map_cons, List.map_nil, List.flatMap_cons, List.flatMap_nil, List.append_nil, hv] at hf
   have hr := run_buildSlice (P := P) w t e 1 #[(0, v)] cs.toArray i z ht hi hz (by rw [hsi]; omega) (by rw [hsi]; omega) (by rw [hsi]; exact hf)
   unfold Oper.wp execOp
   simp only [ho, List.map_toArray, List.map_cons, List.map_nil, hx, Sem.run_bind, hr, Result.andThen_ok, Sem.run_pure]
   exact h

theorem step_app1 {α : Type} {V : World → List Value → α → Prop} {P : Program} {ops : Array Oper} {o : Oper} {a : Act} {w : World} {K : Act → World → Prop} {Q : Exit → Act → World → Prop} {E : Prop} (hw : Region.wanted o (yielded ops a.tmps) = true) (s x : Operand) (t : TypeId)
  (ho : o.op = .call { callee := .builtin .append, args := #[s, x], argTypes := #[t, t] }) {N : Nat} {e : TypeId} {size bytes : Nat} (hT : AppT P t e size bytes)
  {v : Value} {r : List α} (hs : a.eval s = v) (hown : RowIs V e size N v r w) {B c : Nat} (hx : a.eval x = .slice (some ⟨B, 0, none⟩) 1 c) {cs : List Value} (hl : cs.length = size)
  (hcs : Has w B 0 cs) (h1 : cs.all (·.oneCell') = true) {y : α} (hy : StV V N v.ownBlock w cs y) (hn : r.length + 1 ≤ 16777216) (hbase : N ≤ w.heap.size)
  (h : ∀ g cap w', RowIs V e size N (.slice (some ⟨g, 0, none⟩) (r.length + 1) cap) (r ++ [y]) w' → w.grownBy w' v.ownBlock →
   K (a.put o.dst (.slice (some ⟨g, 0, none⟩) (r.length + 1) cap)) w') : if Region.wanted o (yielded ops a.tmps) = true then Oper.wp P o a w K Q else E := by
 rw [if_pos hw]
 obtain ⟨css, h1', h2, h3, h4⟩ := hown
 obtain ⟨v', w', hr, h5, h6, g, cap, rfl, hg⟩ := run_app (P := P) (ty := o.type) (a := ⟨B, 0, none⟩) (m := 1) (c := c) (news := cs) hT h1' (fun _ => Nat.lt_of_lt_of_le Nat.zero_lt_one (Nat.le_refl 1)) (by rw [hl, Nat.one_mul]) (fun j u hj => by
  have hadd : (⟨B, 0, none⟩ : Addr).add j = ⟨B, j, none⟩ := by unfold Addr.add; split <;> simp_all
  rw [hadd]
  have := hcs j u hj
  rwa [Nat.zero_add] at this) h1 hn hbase
 unfold Oper.wp execOp
 simp only [ho, resolve, invoke, builtin, Sem.run_bind, Sem.run_pure, Result.andThen_ok, List.map_toArray, List.map_cons, List.map_nil, hs, hx]
 rw [hr]
 exact h g cap w' (RowIs.snoc h2 h3 h4 hl hy h5 h6 ⟨g, cap, rfl, hg⟩) h6

open Go.RowKit

/-! ### a range over an iterator whose rounds all run to their end -/
def soft (t : TypeId) : Bool := t == 71 || t == 63

/-- nothing below n0 has turned; of what was made since, only rows and boxes of spans, and what is no cells -/
structure Hard (n0 : Nat) (W W' : World) : Prop where
 below : Below n0 W W'
 hard : ∀ (b : Nat) (c : Array Value) (t : TypeId) (f : Nat × Nat), W.heap[b]? = some (Obj.cells c t f) → soft t = false → W'.heap[b]? = some (Obj.cells c t f)

theorem Hard.refl (n0 : Nat) (W : World) : Hard n0 W W := ⟨Below.refl _ _, fun _ _ _ _ h _ => h⟩
theorem Hard.trans {n0 : Nat} {a b c : World} (h : Hard n0 a b) (k : Hard n0 b c) : Hard n0 a c := ⟨h.below.trans k.below, fun x y t f h1 h2 => k.hard x y t f (h.hard x y t f h1 h2) h2⟩
theorem Hard.of_ext {n0 : Nat} {a b : World} (h : Ext a b) (hn : n0 ≤ a.heap.size) : Hard n0 a b :=
 ⟨Below.mono h hn, fun x _ _ _ h1 _ => (h.block x (Array.getElem?_eq_some_iff.1 h1).1).trans h1⟩
theorem Hard.drew {n0 : Nat} (a : World) : Hard n0 a a.drew := ⟨⟨rfl, rfl, rfl, Nat.le_refl _, fun _ _ => rfl⟩, fun _ _ _ _ h _ => h⟩
theorem Hard.of_gb {n0 : Nat} {a b : World} {R : Option Nat} (h : a.grownBy b R) (hn : n0 ≤ a.heap.size) (hR : ∀ k, R = some k → n0 ≤ k ∧ ∀ (c : Array Value) (t : TypeId) (f : Nat × Nat), a.heap[k]? = some (Obj.cells c t f) → soft t = true) : Hard n0 a b :=
 ⟨⟨h.os, h.tape, h.output, h.size, fun k hk => h.block k (by omega) (by intro e; have := (hR k e.symm).1; omega)⟩, fun x c t f h1 h2 => (h.block x (Array.getElem?_eq_some_iff.1 h1).1 (by
  intro e
  have := (hR x e.symm).2 c t f h1
  rw [h2] at this; cases this)).trans h1⟩
theorem Hard.putObj {n0 : Nat} {a : World} {l : Nat} {o : Obj} (o' : Obj) (hl : a.heap[l]? = some o) (ho : o.isCells = false) (hn : n0 ≤ l) : Hard n0 a (a.putObj l o') :=
 ⟨⟨rfl, rfl, rfl, by simp, fun k hk => World.putObj_heap_other (by omega)⟩, fun x c t f h1 _ => (World.putObj_heap_other (by rintro rfl; rw [hl] at h1; cases h1; cases ho)).trans h1⟩
theorem Hard.blk {n0 : Nat} {a b : World} {B : Nat} {cs : Array Value} {T : TypeId} (h : Hard n0 a b) (hb : Blk a B cs T) (ht : soft T = false) : Blk b B cs T := h.hard B cs T (0, 0) hb ht
theorem Hard.ext {n0 : Nat} {w a b : World} (h : Hard n0 a b) (hx : Ext w a) (hn : w.heap.size ≤ n0) : Ext w b := Below.trans hx (Below.mono h.below hn)

/-- what yield is asked for, at whatever depth -/
def Yields (P : Program) (l : Nat) (x : Array Value) (W : World) (R : Ending → World → Prop) : Prop := ∀ m, YieldAt Fence.wide m P l x W R

/-- an iterator that yields these structs, in this order, and returns -/
def Seq (P : Program) (n0 : Nat) (g : FuncId) (lb : Array Value) (xs : List (List Value)) (w : World) : Prop :=
 ∀ (l : Nat) (J : List (List Value) → World → Prop) (W : World), Hard n0 w W → n0 ≤ W.heap.size → l < W.heap.size → OwnFrom W.heap.size J →
  (∀ pre x W1, J pre W1 → (∃ post, xs = pre ++ x :: post) → W.heap.size ≤ W1.heap.size →
   Yields P l #[.agg x.toArray] W1 fun e W' => e = .returned (.bool true) ∧ J (pre ++ [x]) W' ∧ Hard n0 W1 W' ∧ KeepsFrom W.heap.size W1 W') →
  J [] W → Calls P g (#[.func (.yield l) #[] #[]] ++ lb) W fun e W' => (∃ v, e = .returned v) ∧ J xs W' ∧ Hard n0 W W'

/-- how the body of a round is left: at its end -/
def roundEnd (I : List (List Value) → World → Prop) (n0 B : Nat) (pre : List (List Value)) (W : World) : Exit → Act → World → Prop
 | .normal, _, W' => KeepsFrom B W W' ∧ Hard n0 W W' ∧ I pre W'
 | _, _, _ => False

theorem ownFrom_up {β : Type} {B B' : Nat} {I : β → World → Prop} (h : OwnFrom B I) (hB : B ≤ B') : OwnFrom B' I := fun s W W' row hs hg hr => h s W W' row hs hg fun r e => ⟨Nat.le_trans hB (hr r e).1, (hr r e).2⟩
theorem keepsFrom_up {B B' : Nat} {W W' : World} (h : KeepsFrom B W W') (hB : B ≤ B') : KeepsFrom B' W W' := ⟨h.size, fun k o hk => h.same k o (Nat.le_trans hB hk)⟩
theorem keepsFrom_put {B : Nat} {W : World} {l : Nat} (o' : Obj) (hl : l < B) : KeepsFrom B W (W.putObj l o') := ⟨by simp, fun k o hk ho _ => (World.putObj_heap_other (by omega)).trans ho⟩

/-- the mark of a loop over an iterator -/
abbrev markOf (D : Nat) : Deferred := { target := .collected D, args := #[] }

theorem wp_range {P : Program} {g : Operand} {ps : Array Tmp} {assign body : Code} {Q : Exit → Act → World → Prop} {a : Act} {w : World} {n0 : Nat} {gf : FuncId} {lb : Array Value}
  (hg : a.eval g = .func (.func gf) #[] lb) (eg : Leads P gf) {xs : List (List Value)} (hseq : Seq P n0 gf lb xs w) (hps : ps.size = 1) (hn0 : n0 ≤ w.heap.size)
  (I : List (List Value) → World → Prop) (hI : OwnFrom w.heap.size I) (h0 : I [] w) (Mid : List (List Value) → List Value → Act → World → Prop) (hMid : ∀ pre x a', OwnFrom w.heap.size (fun (_ : Unit) W => Mid pre x a' W))
  (hassign : ∀ (l m : Nat) (pre : List (List Value)) (x : List Value) (W : World), I pre W → (∃ post, xs = pre ++ x :: post) → w.heap.size ≤ W.heap.size →
   assign.wpIn (Fence.wide.inRound l) m P (Exit.then (fun a' W' => KeepsFrom w.heap.size W W' ∧ Hard n0 W W' ∧ Mid pre x a' W') (fun _ _ _ => False)) { tmps := (ps.zip #[.agg x.toArray]).foldl (fun t (p, v) => t.setIfInBounds p v) a.tmps, defers := [] } W)
  (hbody : ∀ (l m : Nat) (pre : List (List Value)) (x : List Value) (a' : Act) (W : World), Mid pre x a' W → (∃ post, xs = pre ++ x :: post) → w.heap.size ≤ W.heap.size →
   body.wpIn (Fence.wide.inRound l) m P (roundEnd I n0 w.heap.size (pre ++ [x]) W) a' W)
  (hdone : ∀ (D : Nat) (W : World), w.heap.size ≤ D → I xs W → Hard n0 w W → W.heap[D]? = some (.deferred (some [])) → Q .normal { a with defers := markOf D :: a.defers } W) :
  (Code.rangeFunc g ps assign body).wp P Q a w := by
 rw [← wpIn_wide (n := 1)]
 refine wpIn_rangeFunc ?_
 intro fn _
 obtain ⟨rec, hrec⟩ : ∃ rec : LoopState → Option Code → Loop, rec = fun st pe => { state := st, pending := pe, fn, tmps := a.tmps, params := ps, assign, body, defers := w.heap.size } := ⟨_, rfl⟩
 obtain ⟨W1, hW1⟩ : ∃ W1, (w.alloc (.deferred (some []))).alloc (.loop (rec .ready none)) = W1 := ⟨_, rfl⟩
 have hx1 : Ext w W1 := by rw [← hW1]; exact (ext_alloc _ _).alloc _
 have hsz : W1.heap.size = w.heap.size + 1 + 1 := by rw [← hW1]; simp
 have hL1 : W1.heap[w.heap.size + 1]? = some (.loop (rec .ready none)) := by
  rw [← hW1]; have := World.alloc_heap_new (w.alloc (.deferred (some []))) (.loop (rec .ready none)); rwa [World.size_alloc] at this
 have hK1 : W1.heap[w.heap.size]? = some (.deferred (some [])) := by
  rw [← hW1]; exact (Below.heap_alloc _ _ _ (by simp)).trans (World.alloc_heap_new w _)
 have hI1 : I [] W1 := by rw [← hW1]; exact hI.alloc _ (hI.alloc _ h0)
 refine ⟨w.heap.size + 1, [markOf w.heap.size], W1, { target := .fn (.func gf) lb, args := #[.func (.yield (w.heap.size + 1)) #[] #[]] }, W1, gf,
  #[.func (.yield (w.heap.size + 1)) #[] #[]] ++ lb, W1, ?_, ?_, fun _ _ => trivial, ?_, fun h => by simp [Fence.wide] at h, ?_⟩
 ·rw [← hW1, hrec]; exact run_enterLoop_outer _ _ _ _ _
 ·simp only [resolve, hg]
  simp [go_sem]
 ·have h2 : (invoke (.fn (.func gf) lb) #[.func (.yield (w.heap.size + 1)) #[] #[]]).run P W1 = (callFunc gf (#[.func (.yield (w.heap.size + 1)) #[] #[]] ++ lb)).run P W1 := rfl
  rw [h2, eg]
 ·rw [callsIn_wide]
  have hdrop : ∀ {s : List (List Value)} {A B : World} {row : Option Nat} {k : Nat} {o : Obj}, k < W1.heap.size → A.heap[k]? = some o → A.grownBy B row → (∀ r, row = some r → W1.heap.size ≤ r ∧ ∃ o : Obj, A.heap[r]? = some o ∧ o.isCells = false) → B.heap[k]? = some o :=
   fun {s A B row k o} hk ho hgb hr => (hgb.block k (Array.getElem?_eq_some_iff.1 ho).1 (by intro e; have := (hr k e.symm).1; omega)).trans ho
  refine (hseq (w.heap.size + 1)
   (fun pre W => I pre W ∧ W.heap[w.heap.size + 1]? = some (.loop (rec .ready none)) ∧ W.heap[w.heap.size]? = some (.deferred (some [])))
   W1 (Hard.of_ext hx1 hn0) (by omega) (by omega)
   (fun s A B row hs hgb hr => ⟨(ownFrom_up hI (by omega)) s A B row hs.1 hgb hr, hdrop (s := s) (by omega) hs.2.1 hgb hr, hdrop (s := s) (by omega) hs.2.2 hgb hr⟩)
   ?_ ⟨hI1, hL1, hK1⟩).mono ?_
  ·rintro pre x W ⟨hi, hl, hk⟩ hpost hsW m
   have hlt : w.heap.size + 1 < W.heap.size := by omega
   have hy := run_yield (P := P) (args := #[.agg x.toArray]) hl (by rw [hrec]; simp [hps])
   rw [hrec] at hy
   refine ⟨fn, _, assign, body, hy, roundIn_of_wpIn trivial (wpIn_mono (hassign _ m pre x W hi hpost (by omega)) ?_)⟩
   rintro e a1 Wa he
   cases e with
   | normal =>
    obtain ⟨hka, hha, hmid⟩ := he
    have hla := hka.same _ _ (by omega) hl rfl
    have hda := hka.same _ _ (Nat.le_refl _) hk rfl
    have hlta : w.heap.size + 1 < Wa.heap.size := (Array.getElem?_eq_some_iff.1 hla).1
    refine ⟨_, run_beginRound hla (by rw [hrec]), ?_⟩
    have hl2 : (Wa.putObj (w.heap.size + 1) (.loop { rec .ready none with state := .busy })).heap[w.heap.size + 1]? = some (.loop { rec .ready none with state := .busy }) := World.putObj_heap_same hlta
    have hk2 : (Wa.putObj (w.heap.size + 1) (.loop { rec .ready none with state := .busy })).heap[w.heap.size]? = some (.deferred (some [])) := (World.putObj_heap_other (by omega)).trans hda
    have hm2 : Mid pre x a1 (Wa.putObj (w.heap.size + 1) (.loop { rec .ready none with state := .busy })) := (hMid pre x a1).putObj (s := ()) _ hmid (by omega) hla rfl
    refine wpIn_mono (hbody _ m pre x a1 _ hm2 hpost (by simp; omega)) ?_
    rintro e a3 W3 hp
    cases e with
    | normal =>
     obtain ⟨hk3, hh3, hi3⟩ := hp
     have hl3 := hk3.same _ _ (by omega) hl2 rfl
     have hd3 := hk3.same _ _ (Nat.le_refl _) hk2 rfl
     have hr := run_endRound (P := P) none hl3
     refine ⟨_, _, hr, rfl, ⟨hI.putObj _ hi3 (by omega) hl3 rfl, ?_, (World.putObj_heap_other (by omega)).trans hd3⟩, ?_, ?_⟩
     ·rw [World.putObj_heap_same (Array.getElem?_eq_some_iff.1 hl3).1, hrec]; rfl
     ·exact (hha.trans (Hard.putObj _ hla rfl (by omega))).trans (hh3.trans (Hard.putObj _ hl3 rfl (by omega)))
     ·exact ((keepsFrom_up hka (by omega)).trans (keepsFrom_put _ (by omega))).trans ((keepsFrom_up hk3 (by omega)).trans (keepsFrom_put _ (by omega)))
    | ret => exact hp.elim
    | exit id => exact hp.elim
    | goto t => exact hp.elim
    | panic ch => exact hp.elim
    | outgrown => exact hp.elim
   | ret => exact he.elim
   | exit id => exact he.elim
   | goto t => exact he.elim
   | panic ch => exact he.elim
   | outgrown => exact he.elim
  ·rintro e W2 ⟨⟨v, rfl⟩, ⟨hi, hl, hk⟩, hh⟩
   have hr := run_endLoop (P := P) hl (by rw [hrec]; simp)
   refine ⟨none, _, by rw [hrec] at hr; exact hr, hdone _ _ (Nat.le_refl _) (hI.putObj _ hi (by omega) hl rfl) ?_ ((World.putObj_heap_other (by omega)).trans hk)⟩
   exact ((Hard.of_ext hx1 hn0).trans hh).trans (Hard.putObj _ hl rfl (by omega))

open Go.RowKit

/-! ### what holds of a plain walk holds of one in a round -/
abbrev FW (r : Option Nat) : Fence := { Fence.wide with round := r }
def isDefer : Op → Bool
 | .defer _ => true
 | _ => false
theorem semAt_fw {r : Option Nat} {o : Oper} (hd : isDefer o.op = false) (ρ : Operand → Value) : Oper.semAt r ρ o = execOp ρ o :=
 Oper.semAt_eq r ρ o (fun c h => by rw [h] at hd; cases hd)

theorem rowsIn_fw {r : Option Nat} {m : Nat} {P : Program} {row : String} {args : Array Value} {w : World} {R : Value → World → Prop} (h : Go.Rows P row args w R) : RowsIn (FW r) m P row args w R :=
 fun c cs _ => let ⟨v, w', hr, hs⟩ := h c cs; ⟨v, w', hr, (stepsIn_wide (P := P)).2 hs⟩
theorem callsIn_fw {r : Option Nat} {m : Nat} {P : Program} {f : FuncId} {args : Array Value} {w : World} {R : Ending → World → Prop} (h : Calls P f args w R) : CallsIn (FW r) m P f args w R :=
 (callsIn_wide (n := m)).2 h

theorem opIn_of_op {r : Option Nat} {m : Nat} {P : Program} {o : Oper} {a : Act} {w : World} {K : Act → World → Prop} {Q : Exit → Act → World → Prop} (hd : isDefer o.op = false) (h : Oper.wp P o a w K Q) : Oper.wpIn (FW r) m P o a w K Q := by
 unfold Oper.wpIn
 refine ⟨fun _ _ => trivial, ?_⟩
 rw [show (FW r).round = r from rfl, semAt_fw hd]
 unfold Oper.wp at h
 generalize (execOp a.eval o).run P w = q at *
 cases q with
 | ok x w' =>
  cases x <;> simp only [Oper.upon, Oper.uponIn] at h ⊢ <;>
   first
    | exact h
    | exact ⟨fun h => (by simp [Fence.wide] at h), callsIn_fw h⟩
    | exact ⟨fun h => (by simp [Fence.wide] at h), rowsIn_fw h⟩
    | exact h.elim
 | halt x w' => cases x <;> simp only [Oper.upon, Oper.uponIn] at h ⊢ <;> first | exact h | exact h.elim

theorem listIn_of_list {r : Option Nat} {m : Nat} {P : Program} {ops : Array Oper} {Q : Exit → Act → World → Prop} (hQ : ¬ LetsOut Q) : ∀ (l : List Oper) (a : Act) (w : World), (l.all fun o => !isDefer o.op) = true → wpList P ops Q l a w → wpListIn (FW r) m P ops Q l a w
 | [], _, _, _, h => h
 | o :: rest, a, w, hd, h => by
  simp only [List.all_cons, Bool.and_eq_true, Bool.not_eq_true'] at hd
  unfold wpListIn
  unfold wpList at h
  split
  ·rename_i hw
   rw [if_pos hw] at h
   rcases h with h | h
   ·exact Oper.wpIn_mono (fun a w h => listIn_of_list hQ rest a w hd.2 h) (opIn_of_op hd.1 h)
   ·exact absurd h.2 hQ
  ·rename_i hw
   rw [if_neg hw] at h
   exact ⟨fun _ _ => trivial, listIn_of_list hQ rest _ w hd.2 h⟩

theorem regionIn_list {F : Fence} {m : Nat} {P : Program} {id : Nat} {ops : Array Oper} {Q : Exit → Act → World → Prop} {a : Act} {w : World} (h : wpListIn F m P ops Q ops.toList a w) : (Code.region id ops false).wpIn F m P Q a w :=
 wpIn_region (by rw [List.range_eq_range', ← Array.length_toList, wpOpsIn_eq_wpListIn ops.toList 0 (by simp)]; exact h)

theorem regionIn_of_list {r : Option Nat} {m : Nat} {P : Program} {id : Nat} {ops : Array Oper} {Q : Exit → Act → World → Prop} {a : Act} {w : World} (hd : (ops.toList.all fun o => !isDefer o.op) = true) (hQ : ¬ LetsOut Q)
  (h : wpList P ops Q ops.toList a w) : (Code.region id ops false).wpIn (FW r) m P Q a w := regionIn_list (listIn_of_list hQ _ _ _ hd h)

theorem opsIn_of_any {r : Option Nat} {m : Nat} {P : Program} {md : Region.Mode} {ops : Array Oper} {Q : Exit → Act → World → Prop} (hd : (ops.toList.all fun o => !isDefer o.op) = true) (hQ : ¬ LetsOut Q) : ∀ (fuel : Nat) (listed : Array Bool) (a : Act) (w : World),
  wpAny P md ops Q fuel listed a w → wpAnyIn (FW r) m P md ops Q fuel listed a w
 | 0, _, _, _, h => h
 | fuel + 1, listed, a, w, h => by
  refine ⟨h.1, fun i hi => ?_⟩
  have h2 := h.2 i hi
  unfold wpOp at h2
  unfold wpOpIn
  cases ho : ops[i]? with
  | none => rw [ho] at h2; exact opsIn_of_any hd hQ fuel _ a w h2
  | some o =>
   rw [ho] at h2
   simp only at h2 ⊢
   have hdo : isDefer o.op = false := by
    have := List.all_eq_true.1 hd o (Array.mem_toList_iff.2 (Array.mem_of_getElem? ho))
    simpa using this
   split
   ·rename_i hw
    rw [if_pos hw] at h2
    rcases h2 with h2 | h2
    ·exact Oper.wpIn_mono (fun a w h => opsIn_of_any hd hQ fuel _ a w h) (opIn_of_op hdo h2)
    ·exact absurd h2.2 hQ
   ·rename_i hw
    rw [if_neg hw] at h2
    exact ⟨fun _ _ => trivial, opsIn_of_any hd hQ fuel _ _ w h2⟩

/-- a region that draws its order, in a round -/
theorem regionIn_held {r : Option Nat} {m : Nat} {P : Program} {id : Nat} {ops : Array Oper} {Q : Exit → Act → World → Prop} {S : World → Prop} {a : Act} {w : World} (hm : P.follows .mixedOrders = true) (hd : (ops.toList.all fun o => !isDefer o.op) = true) (hQ : ¬ LetsOut Q) (hS : S w.drew)
  (h : S w.drew → wpAnyH P .any ops Q S ops.size (Array.replicate ops.size false) a w.drew) : (Code.region id ops true).wpIn (FW r) m P Q a w :=
 wpIn_region_any hm (opsIn_of_any hd hQ _ _ _ _ (wpAny_of_held _ _ _ _ (h hS)))

/-- an operation of a list, by the plain law -/
theorem listIn_op {r : Option Nat} {m : Nat} {P : Program} {ops : Array Oper} {Q : Exit → Act → World → Prop} {o : Oper} {rest : List Oper} {a : Act} {w : World} (hw : Region.wanted o (yielded ops a.tmps) = true) (hd : isDefer o.op = false)
  (h : ∀ K : Act → World → Prop, (∀ a w, wpListIn (FW r) m P ops Q rest a w → K a w) → Oper.wp P o a w K Q) : wpListIn (FW r) m P ops Q (o :: rest) a w := by
 unfold wpListIn
 rw [if_pos hw]
 exact opIn_of_op hd (h _ fun _ _ h => h)

/-- a call of yield -/
theorem listIn_yield {r : Option Nat} {m : Nat} {P : Program} {ops : Array Oper} {Q : Exit → Act → World → Prop} {o : Oper} {rest : List Oper} {a : Act} {w : World} (hw : Region.wanted o (yielded ops a.tmps) = true)
  (x y : Operand) (ts : Array TypeId) (ho : o.op = .call { callee := .value x, args := #[y], argTypes := ts }) {l : Nat} (hx : a.eval x = .func (.yield l) #[] #[]) {v : Value} (hy : a.eval y = v) {S : World → Prop}
  (hY : Yields P l #[v] w fun e W' => e = .returned (.bool true) ∧ S W') (h : ∀ W', S W' → wpListIn (FW r) m P ops Q rest (a.put o.dst (.bool true)) W') : wpListIn (FW r) m P ops Q (o :: rest) a w := by
 unfold wpListIn
 rw [if_pos hw]
 unfold Oper.wpIn
 refine ⟨fun _ _ => trivial, ?_⟩
 rw [show (FW r).round = r from rfl, semAt_fw (by rw [ho]; rfl)]
 obtain ⟨fn, tmps, assign, body, hrun, hR⟩ := hY (m - 1)
 have hex : (execOp a.eval o).run P w = .ok (.round l fn tmps assign body) w := by
  obtain ⟨dst, op, ty, pos, after, guard⟩ := o
  simp only at ho
  subst ho
  have h1 : execOp a.eval { dst, op := .call { callee := .value x, args := #[y], argTypes := ts }, type := ty, pos, after, guard } = (Deferred.ofValue (a.eval x) (#[y].map a.eval) >>= fun d => invoke d.target d.args) := rfl
  have h2 : (Deferred.ofValue (.func (.yield l) #[] #[]) #[v] >>= fun d => invoke d.target d.args) = Instr.yield l #[v] := rfl
  rw [h1, hx]
  simp only [List.map_toArray, List.map_cons, List.map_nil, hy]
  rw [h2]; exact hrun
 rw [hex, Oper.uponIn_round]
 refine ⟨fun h => by simp [Fence.wide] at h, ?_⟩
 have hR2 : RoundIn (FW r) (m - 1) P l fn tmps assign body w _ := hR
 refine hR2.mono ?_
 rintro e W' ⟨rfl, hS⟩
 exact h W' hS

/-- a region that calls yield, in a plain frame -/
theorem wp_region_in {P : Program} {id : Nat} {ops : Array Oper} {Q : Exit → Act → World → Prop} {a : Act} {w : World} (h : wpListIn (FW none) 0 P ops Q ops.toList a w) : (Code.region id ops false).wp P Q a w :=
 (wpIn_wide (n := 0)).1 (regionIn_list h)

theorem op_load_has {P : Program} {o : Oper} {a : Act} {w : World} {K : Act → World → Prop} {Q : Exit → Act → World → Prop} (ty : TypeId) (x : Operand) (ho : o.op = .load ty x)
  {b off : Nat} (hx : a.eval x = .pointer (some ⟨b, off, none⟩)) {cs : List Value} {n : Nat} (hg : Has w b off cs) (hu : Agg P ty n) (hn : cs.length = n) (h : K (a.put o.dst (.agg cs.toArray)) w) : Oper.wp P o a w K Q := by
 subst hn
 unfold Oper.wp execOp
 simp only [ho, hx, Instr.loadAt, Instr.sureAddr, Sem.run_bind, Sem.run_pure, Result.andThen_ok, run_loadVar_has w b off ty cs hg hu]
 exact h

/-! ### marks of loops that are over -/
def Marks (B : Nat) (ds : List Deferred) (W : World) : Prop := ∃ Ds : List Nat, ds = Ds.map markOf ∧ Ds.Pairwise (· ≠ ·) ∧ ∀ D ∈ Ds, B ≤ D ∧ W.heap[D]? = some (.deferred (some []))

theorem Marks.nil (B : Nat) (W : World) : Marks B [] W := ⟨[], rfl, .nil, by simp⟩
theorem Marks.keep {B : Nat} {ds : List Deferred} {W W' : World} (h : Marks B ds W) (hk : ∀ (D : Nat), markOf D ∈ ds → B ≤ D → W.heap[D]? = some (.deferred (some [])) → W'.heap[D]? = some (.deferred (some []))) : Marks B ds W' := by
 obtain ⟨Ds, rfl, h2, h3⟩ := h
 exact ⟨Ds, rfl, h2, fun D hD => ⟨(h3 D hD).1, hk D (List.mem_map_of_mem hD) (h3 D hD).1 (h3 D hD).2⟩⟩
theorem Marks.cons {B D : Nat} {ds : List Deferred} {W : World} (h : Marks B ds W) {M : Nat} (hlt : ∀ D', markOf D' ∈ ds → D' < M) (hD : M ≤ D) (hB : B ≤ D) (hw : W.heap[D]? = some (.deferred (some []))) : Marks B (markOf D :: ds) W := by
 obtain ⟨Ds, rfl, h2, h3⟩ := h
 refine ⟨D :: Ds, rfl, List.pairwise_cons.2 ⟨fun D' hD' => ?_, h2⟩, fun D' hD' => ?_⟩
 ·have := hlt D' (List.mem_map_of_mem hD'); omega
 ·cases hD' with
  | head => exact ⟨hB, hw⟩
  | tail _ h => exact h3 D' h
theorem Marks.lt {B D : Nat} {ds : List Deferred} {W : World} (h : Marks B ds W) (hD : markOf D ∈ ds) : D < W.heap.size := by
 obtain ⟨Ds, rfl, h2, h3⟩ := h
 obtain ⟨D', hD', e⟩ := List.mem_map.1 hD
 have : D' = D := by injection e with e1; injection e1
 subst this
 exact (Array.getElem?_eq_some_iff.1 (h3 D' hD').2).1

theorem keepsFrom_ext {B : Nat} {W W' : World} (h : Ext W W') : KeepsFrom B W W' := ⟨h.size, fun k _ _ hk _ => (h.block k (Array.getElem?_eq_some_iff.1 hk).1).trans hk⟩
theorem own_blk {A B : World} {M Bk : Nat} {cs : Array Value} {T : TypeId} {row : Option Nat} (hb : Blk A Bk cs T) (hg : A.grownBy B row) (hr : ∀ r, row = some r → M ≤ r ∧ ∃ o : Obj, A.heap[r]? = some o ∧ o.isCells = false) : Blk B Bk cs T :=
 (hg.block Bk hb.lt (by
  intro e
  obtain ⟨_, o, ho, hno⟩ := hr _ e.symm
  unfold Blk at hb
  rw [hb] at ho; cases ho; cases hno)).trans hb
theorem own_hard {W A B : World} {M n0 : Nat} {row : Option Nat} (h : Hard n0 W A) (hn : n0 ≤ M) (hn' : n0 ≤ A.heap.size) (hg : A.grownBy B row) (hr : ∀ r, row = some r → M ≤ r ∧ ∃ o : Obj, A.heap[r]? = some o ∧ o.isCells = false) : Hard n0 W B :=
 h.trans (Hard.of_gb hg hn' fun r e => ⟨Nat.le_trans hn (hr r e).1, fun c t f hc => by
  obtain ⟨_, o, ho, hno⟩ := hr r e
  rw [ho] at hc; cases hc; cases hno⟩)
theorem own_marks {A B : World} {M B0 : Nat} {ds : List Deferred} {row : Option Nat} (h : Marks B0 ds A) (hlt : ∀ D, markOf D ∈ ds → D < M) (hg : A.grownBy B row) (hr : ∀ r, row = some r → M ≤ r ∧ ∃ o : Obj, A.heap[r]? = some o ∧ o.isCells = false) : Marks B0 ds B :=
 h.keep fun D hD _ hw => (hg.block D (Array.getElem?_eq_some_iff.1 hw).1 (by intro e; have := (hr D e.symm).1; have := hlt D hD; omega)).trans hw
theorem own_size {A B : World} {row : Option Nat} {n : Nat} (h : n < A.heap.size) (hg : A.grownBy B row) : n < B.heap.size := Nat.lt_of_lt_of_le h hg.size
theorem Marks.ext {B : Nat} {ds : List Deferred} {W W' : World} (h : Marks B ds W) (hx : Ext W W') : Marks B ds W' := h.keep fun D _ _ hw => (hx.block D (Array.getElem?_eq_some_iff.1 hw).1).trans hw
theorem Marks.keeps {B : Nat} {ds : List Deferred} {W W' : World} (h : Marks B ds W) (hk : KeepsFrom B W W') : Marks B ds W' := h.keep fun D _ hB hw => hk.same D _ hB hw rfl

/-- a function leaves over its marks: what stays true when blocks that are no cells are shut is true behind them -/
theorem leaves_marks {P : Program} {fn : Func} {tmps : Array Value} {R : Ending → World → Prop} {B : Nat} (I : Unit → World → Prop) (hI : OwnFrom B I) (hend : ∀ W, I () W → LeavesInM Fence.wide 0 P fn tmps R [] .returning W) :
  ∀ (ds : List Deferred) (W : World), Marks B ds W → I () W → LeavesInM Fence.wide 0 P fn tmps R ds .returning W := by
 intro ds W ⟨Ds, h1, h2, h3⟩
 subst h1
 induction Ds generalizing W with
 | nil => intro hi; exact hend W hi
 | cons D Ds ih =>
  intro hi
  obtain ⟨hB, hD⟩ := h3 D (by simp)
  refine ⟨by simp, .inl ⟨D, _, rfl, run_takeDeferred hD, ?_⟩⟩
  rw [List.pairwise_cons] at h2
  refine ih _ h2.2 (fun D' hD' => ⟨(h3 D' (by simp [hD'])).1, ?_⟩) (hI.putObj _ hi hB hD rfl)
  exact (World.putObj_heap_other (Ne.symm (h2.1 D' hD'))).trans (h3 D' (by simp [hD'])).2

open Go.RowKit

/-! ### statements, and those that stand in them -/
def eachT : T → List T
 | ⟨op, sig, hi, lo, e, l⟩ => ⟨op, sig, hi, lo, e, l⟩ :: eachTs l
where eachTs : List T → List T
 | [] => []
 | t :: l => eachT t ++ eachTs l
theorem eachT_eq (t : T) : eachT t = t :: eachT.eachTs t.l := by cases t; rw [eachT]
theorem eachTs_eq (l : List T) : eachT.eachTs l = (l.map eachT).flatten := by
 induction l with
 | nil => rfl
 | cons x l ih => simp [eachT.eachTs, ih]

theorem each_calls (s : Value) (hs : s.oneCell' = true) (w : World) :
  Calls Tryz.prog 39 #[s] w fun r w' => r = .returned (.func (.func 60) #[] #[.pointer (some ⟨w.heap.size, 0, none⟩)]) ∧ w' = w.alloc (.cells #[s] 36) := by
 go_enter Tryz.func39, Tryz.ntmps39
 go_wp2_with fail
 go_ret
 exact ⟨rfl, rfl⟩

theorem leads_each1 : Leads Tryz.prog 60 := leads_of Tryz.func60 (by kernel_rfl) rfl

/-- structs that are read as these statements -/
def Eaches (wb : World) : List T → List (List Value) → Prop
 | [], [] => True
 | t :: ts, x :: xs => VT wb x t ∧ Eaches wb ts xs
 | _, _ => False
theorem Eaches.append {wb : World} {ts ts' : List T} {xs xs' : List (List Value)} (h : Eaches wb ts xs) (h' : Eaches wb ts' xs') : Eaches wb (ts ++ ts') (xs ++ xs') := by
 induction ts generalizing xs with
 | nil => cases xs with
  | nil => exact h'
  | cons _ _ => exact h.elim
 | cons t ts ih => cases xs with
  | nil => exact h.elim
  | cons x xs => exact ⟨h.1, ih h.2⟩
theorem Eaches.mem {wb : World} {ts : List T} {xs : List (List Value)} (h : Eaches wb ts xs) {x : List Value} (hx : x ∈ xs) : ∃ t ∈ ts, VT wb x t := by
 induction ts generalizing xs with
 | nil => cases xs with
  | nil => cases hx
  | cons _ _ => exact h.elim
 | cons t ts ih => cases xs with
  | nil => exact h.elim
  | cons y xs =>
   cases hx with
   | head => exact ⟨t, by simp, h.1⟩
   | tail _ hx => obtain ⟨t', h1, h2⟩ := ih h.2 hx; exact ⟨t', by simp [h1], h2⟩

def EachOk (L : List T) : Prop := ∀ (wb : World) (s : Value), Ts wb s L → ∃ xs, Eaches wb (eachT.eachTs L) xs ∧
 ∀ (n0 : Nat) (w : World) (B : Nat), wb.heap.size ≤ n0 → Ext wb w → Blk w B #[s] 36 → n0 ≤ w.heap.size → Seq Tryz.prog n0 60 #[.pointer (some ⟨B, 0, none⟩)] xs w

set_option maxRecDepth 100000 in
set_option maxHeartbeats 2000000 in
theorem each1_step (L : List T) (ih : ∀ t ∈ L, EachOk t.l) : EachOk L := by
 intro wb s hs
 obtain ⟨a0, b, o, cap, hsl, hc1, hc2, ha, hr⟩ := hs.open
 subst hsl
 have hex : ∀ k, ∃ p : List Value × List (List Value), (hk : k < L.length) → (∃ s1 s2, p.1 = L[k].cells s1 s2 ∧ Has wb b (o + k * 6) p.1 ∧ VT wb p.1 L[k] ∧ Eaches wb (eachT.eachTs L[k].l) p.2 ∧ s2.oneCell' = true ∧
   ∀ (n0 : Nat) (w : World) (B : Nat), wb.heap.size ≤ n0 → Ext wb w → Blk w B #[s2] 36 → n0 ≤ w.heap.size → Seq Tryz.prog n0 60 #[.pointer (some ⟨B, 0, none⟩)] p.2 w) := by
  intro k
  by_cases hk : k < L.length
  ·obtain ⟨s1, s2, h1, h2, h3⟩ := Ts.get hr hk
   obtain ⟨xs, hx1, hx2⟩ := ih _ (List.getElem_mem hk) wb s2 h3
   exact ⟨(_, xs), fun _ => ⟨s1, s2, rfl, h1, ⟨s1, s2, rfl, h2, h3⟩, hx1, h3.one, hx2⟩⟩
  ·exact ⟨([], []), fun h => absurd h hk⟩
 obtain ⟨f, hf⟩ : ∃ f : Nat → List Value × List (List Value), ∀ k (hk : k < L.length), ∃ s1 s2, (f k).1 = L[k].cells s1 s2 ∧ Has wb b (o + k * 6) (f k).1 ∧ VT wb (f k).1 L[k] ∧ Eaches wb (eachT.eachTs L[k].l) (f k).2 ∧ s2.oneCell' = true ∧
   ∀ (n0 : Nat) (w : World) (B : Nat), wb.heap.size ≤ n0 → Ext wb w → Blk w B #[s2] 36 → n0 ≤ w.heap.size → Seq Tryz.prog n0 60 #[.pointer (some ⟨B, 0, none⟩)] (f k).2 w :=
  ⟨fun k => Classical.choose (hex k), fun k hk => Classical.choose_spec (hex k) hk⟩
 clear hex ih
 obtain ⟨pre, hpre0, hpreS⟩ : ∃ pre : Nat → List (List Value), pre 0 = [] ∧ ∀ k, pre (k + 1) = pre k ++ ((f k).1 :: (f k).2) :=
  ⟨fun k => ((List.range k).map fun j => (f j).1 :: (f j).2).flatten, rfl, fun k => by simp [List.range_succ]⟩
 have hea : ∀ k, k ≤ L.length → Eaches wb (((L.take k).map eachT).flatten) (pre k) := by
  intro k
  induction k with
  | zero => intro _; rw [hpre0]; trivial
  | succ k ih =>
   intro hk
   rw [take_snoc L k hk, List.map_append, List.flatten_append, hpreS]
   obtain ⟨s1, s2, -, -, h3, h4, -⟩ := hf k hk
   refine (ih (by omega)).append ?_
   simp only [List.map_cons, List.map_nil, List.flatten_cons, List.flatten_nil, List.append_nil]
   rw [eachT_eq]
   exact ⟨h3, h4⟩
 refine ⟨pre L.length, by rw [eachTs_eq]; have := hea _ (Nat.le_refl _); rwa [List.take_length] at this, ?_⟩
 have hpost : ∀ k, k ≤ L.length → ∃ post, pre L.length = pre k ++ post := by
  have hm : ∀ m k, k + m = L.length → ∃ post, pre L.length = pre k ++ post := by
   intro m
   induction m with
   | zero => intro k hk; exact ⟨[], by rw [← hk]; simp⟩
   | succ m ih =>
    intro k hk
    obtain ⟨post, hp⟩ := ih (k + 1) (by omega)
    exact ⟨_, by rw [hp, hpreS, List.append_assoc]⟩
  exact fun k hk => hm (L.length - k) k (by omega)
 intro n0 w B hn0 hxb hB hnw l J W hHW hnW hlW hJ hY hJ0
 have HF := Lib.hid hf
 have HPS := Lib.hid hpreS
 have HPO := Lib.hid hpost
 have HY := Lib.hid hY
 have HJ := Lib.hid hJ
 have HA := Lib.hid ha
 have HXW := Lib.hid (hHW.ext hxb hn0)
 have hBW := hHW.blk hB (by decide)
 clear hf hpreS hpost hY hJ hea ha hr hs
 have hX := ext_alloc W (.cells #[.func (.yield l) #[] #[]] 90)
 have hbY := Blk.new W #[.func (.yield l) #[] #[]] 90
 have HBY := Lib.hid hbY
 have HBB := Lib.hid (hBW.ext hX)
 have hJ1 := HJ.out.alloc (.cells #[.func (.yield l) #[] #[]] 90) hJ0
 have g0 := HBB.out.cell 0
 simp only [List.getElem?_toArray, List.getElem?_cons_zero] at g0
 refine callsIn_wide.1 (callsIn_of_wp_marks (n := 0) Tryz.func60 rfl trivial ?_); rw [wpIn_wide]; simp only [Tryz.ntmps60, List.size_toArray, List.length_cons, List.length_nil, Nat.reduceAdd, Nat.reduceSub, Array.replicate_succ, Array.replicate_zero, List.push_toArray, List.append_toArray, List.nil_append, List.cons_append]
 go_wp2_with fail
 have hsY : (W.alloc (.cells #[.func (.yield l) #[] #[]] 90)).heap.size = W.heap.size + 1 := by simp
 have hHX := Hard.of_ext hX hnW
 generalize W.alloc _ = wY at *
 refine wp_loop (fun a wr => ∃ (k : Nat) (u3 u4 u5 u9 u10 u11 u12 u13 u14 u15 u16 u17 u18 u19 u20 u21 u22 u23 u24 : Value) (ds : List Deferred), a = ⟨#[.func (.yield l) #[] #[], .pointer (some ⟨B, 0, none⟩), .pointer (some ⟨W.heap.size, 0, none⟩), u3, u4, u5, .slice a0 L.length cap, .int .i64 L.length, .int .i64 k, u9, u10, u11, u12, u13, u14, u15, u16, u17, u18, u19, u20, u21, u22, u23, u24], ds⟩ ∧
  k ≤ L.length ∧ J (pre k) wr ∧ Hard n0 W wr ∧ Marks W.heap.size ds wr ∧ Blk wr W.heap.size #[.func (.yield l) #[] #[]] 90 ∧ W.heap.size < wr.heap.size) (fun a _ => L.length - (intOf (a.tmps.getD 8 undef)).toNat)
  ⟨0, _, _, _, _, _, _, _, _, _, _, _, _, _, _, _, _, _, _, _, [], rfl, Nat.zero_le _, by rw [hpre0]; exact hJ1, hHX, Marks.nil _ _, HBY.out, by omega⟩ ?_
 rintro a wr ⟨k, u3, u4, u5, u9, u10, u11, u12, u13, u14, u15, u16, u17, u18, u19, u20, u21, u22, u23, u24, ds, rfl, hk, hJk, hHk, hMk, hYk, hsk⟩
 have HJK := Lib.hid hJk
 have HHK := Lib.hid hHk
 have HMK := Lib.hid hMk
 have HYK := Lib.hid hYk
 clear hJk hHk hMk hYk hJ1 hHX
 have HXK := Lib.hid (HHK.out.ext HXW.out hn0)
 by_cases hlt : k < L.length
 ·obtain ⟨s1, s2, hcs, hhas, hvt, hea2, hone, hseq⟩ := HF.out k hlt
  obtain rfl := HA.out (by omega)
  obtain ⟨post, hpo⟩ := HPO.out (k + 1) hlt
  have hps := HPS.out k
  rw [hcs] at hhas hps hvt
  generalize L[k] = tk at *
  generalize (f k).2 = xk at *
  clear hcs
  have HPS2 := Lib.hid hps
  have HPO2 := Lib.hid hpo
  have HSEQ := Lib.hid hseq
  have HVT := Lib.hid hvt
  have HEA := Lib.hid hea2
  have HONE := Lib.hid hone
  have HH1 := Lib.hid (hhas.ext HXK.out)
  clear hps hpo hseq hvt hea2 hhas hone
  have hx4 := ext_alloc wr (.cells (tk.cells s1 s2).toArray 68)
  have hb4 := Blk.new wr (tk.cells s1 s2).toArray 68
  have hJ4 := HJ.out.alloc (.cells (tk.cells s1 s2).toArray 68) HJK.out
  have hs4 : (wr.alloc (.cells (tk.cells s1 s2).toArray 68)).heap.size = wr.heap.size + 1 := by simp
  go_upto_region 4 with (first | ((with_reducible show wpList _ _ _ (⟨_, Op.load 68 _, _, _, _, _⟩ :: _) _ _); refine wpList_load_has rfl 68 _ rfl rfl (HH1.out) agg_T rfl ?_) | ((with_reducible show wpList _ _ _ (⟨_, Op.store 68 _ _, _, _, _, _⟩ :: _) _ _); refine wpList_store_new rfl 68 _ _ rfl rfl (by first | rfl | simp) rfl agg_T (rfl) rfl (HVT.out.one) ?_))
  generalize wr.alloc _ = w4 at *
  have hY4 := HYK.out.ext hx4
  refine wp_region_in ?_
  refine listIn_op rfl rfl fun K hK => ?_
  have y0 : w4.cell? ⟨W.heap.size, 0, none⟩ = some (.func (.yield l) #[] #[]) := by rw [hY4.cell]; rfl
  go_simp
  refine hK _ _ ?_
  clear hK y0
  refine listIn_op rfl rfl fun K hK => ?_
  refine op_load_has 68 _ rfl rfl hb4.has agg_T rfl ?_
  refine hK _ _ ?_
  clear hK
  refine listIn_yield rfl _ _ _ rfl rfl rfl (HY.out (pre k) (tk.cells s1 s2) w4 hJ4 ⟨xk ++ post, by rw [HPO2.out, HPS2.out]; simp⟩ (by omega)) ?_
  rintro w5 ⟨hJ5, hH5, hK5⟩
  refine listIn_op rfl rfl fun K hK => ?_
  go_simp
  refine hK _ _ ?_
  clear hK
  unfold wpListIn
  have hb5 := hH5.blk hb4 (by decide)
  have g5 := hb5.cell 5
  simp only [List.getElem?_toArray, List.getElem?_cons_zero, List.getElem?_cons_succ] at g5
  have HB5 := Lib.hid hb5
  have HJ5 := Lib.hid hJ5
  clear hb5 hJ5
  go_wp2_with (first | (go_at_call 39; refine (each_calls s2 HONE.out _).mono ?_; rintro r w6 ⟨rfl, rfl⟩))
  have hx6 := ext_alloc w5 (.cells #[s2] 36)
  have hb6 := Blk.new w5 #[s2] 36
  have hJ6 := HJ.out.alloc (.cells #[s2] 36) HJ5.out
  have hs5 := hH5.below.size
  have hs6 : (w5.alloc (.cells #[s2] 36)).heap.size = w5.heap.size + 1 := by simp
  have hM6 := ((HMK.out.ext hx4).keeps hK5).ext hx6
  have hY6 := (hH5.blk hY4 (by decide)).ext hx6
  have hH6 := ((HHK.out.trans (Hard.of_ext hx4 (by omega))).trans hH5).trans (Hard.of_ext hx6 (by omega))
  obtain ⟨B6, hB6⟩ : ∃ x, w5.heap.size = x := ⟨_, rfl⟩
  rw [hB6] at hb6 hs6 hs5 ⊢
  clear hB6
  generalize w5.alloc _ = w6 at *
  have hlt6 : ∀ D, markOf D ∈ ds → D < w6.heap.size := fun D hD => hM6.lt hD
  have HLT6 := Lib.hid hlt6
  have HX6 := Lib.hid (hH6.ext HXW.out hn0)
  refine wp_range (n0 := n0) rfl leads_each1 (HSEQ.out n0 w6 B6 hn0 HX6.out hb6 (by omega)) rfl (by omega)
   (fun pre' Wx => J (pre k ++ tk.cells s1 s2 :: pre') Wx ∧ Hard n0 W Wx ∧ Marks W.heap.size ds Wx ∧ Blk Wx W.heap.size #[.func (.yield l) #[] #[]] 90 ∧ W.heap.size < Wx.heap.size)
   (fun s A B row hs hg hr => ⟨HJ.out _ A B row hs.1 hg (fun r e => ⟨by have := (hr r e).1; omega, (hr r e).2⟩), own_hard hs.2.1 (by omega) (by have := hs.2.2.2.2; omega) hg hr, own_marks hs.2.2.1 HLT6.out hg hr, own_blk hs.2.2.2.1 hg hr, own_size hs.2.2.2.2 hg⟩)
   ⟨hJ6, hH6, hM6, hY6, by omega⟩
   (fun pre' x a' Wx => (J (pre k ++ tk.cells s1 s2 :: pre') Wx ∧ Hard n0 W Wx ∧ Marks W.heap.size ds Wx ∧ Blk Wx W.heap.size #[.func (.yield l) #[] #[]] 90 ∧ W.heap.size < Wx.heap.size) ∧
    ∃ (U : Nat) (t' : T) (v1 v2 : Value), x = t'.cells v1 v2 ∧ Blk Wx U x.toArray 68 ∧ a' = ⟨#[.func (.yield l) #[] #[], .pointer (some ⟨B, 0, none⟩), .pointer (some ⟨W.heap.size, 0, none⟩), u3, .pointer (some ⟨wr.heap.size, 0, none⟩), .pointer (some ⟨U, 0, none⟩), .slice (some ⟨b, o, none⟩) L.length cap, .int .i64 L.length, .int .i64 k, .bool true, .pointer (some ⟨b, o + k * 6, none⟩), .agg (tk.cells s1 s2).toArray, .func (.yield l) #[] #[], .agg (tk.cells s1 s2).toArray, .bool true, .bool false, .pointer (some ⟨wr.heap.size, 5, none⟩), s2, .func (.func 60) #[] #[.pointer (some ⟨B6, 0, none⟩)], .agg x.toArray, u20, u21, u22, u23, u24], []⟩)
   (fun pre' x a' s A B row hs hg hr => ⟨⟨HJ.out _ A B row hs.1.1 hg (fun r e => ⟨by have := (hr r e).1; omega, (hr r e).2⟩), own_hard hs.1.2.1 (by omega) (by have := hs.1.2.2.2.2; omega) hg hr, own_marks hs.1.2.2.1 HLT6.out hg hr, own_blk hs.1.2.2.2.1 hg hr, own_size hs.1.2.2.2.2 hg⟩, by
    obtain ⟨U, t', v1, v2, h1, h2, h3⟩ := hs.2
    exact ⟨U, t', v1, v2, h1, own_blk h2 hg hr, h3⟩⟩) ?assign ?body ?done
  case assign =>
   rintro l' m pre' x Wx ⟨q1, q2, q3, q4, q5⟩ ⟨post', hxp⟩ hsz
   obtain ⟨t', -, v1, v2, rfl, hv1, hv2⟩ := HEA.out.mem (show x ∈ xk by rw [hxp]; simp)
   refine regionIn_of_list (r := some l') (by kernel_rfl) (by rintro ⟨_, _, h⟩; exact h) ?_
   have hxu := ext_alloc Wx (.cells (t'.cells v1 v2).toArray 68)
   have hbu := Blk.new Wx (t'.cells v1 v2).toArray 68
   go_wp2_with (first | ((with_reducible show wpList _ _ _ (⟨_, Op.store 68 _ _, _, _, _, _⟩ :: _) _ _); refine wpList_store_new rfl 68 _ _ rfl rfl (by first | rfl | simp) rfl agg_T (rfl) rfl (by simp [hv1.one, hv2.one, one_int]) ?_))
   exact ⟨keepsFrom_ext hxu, Hard.of_ext hxu (by omega), ⟨HJ.out.alloc _ q1, q2.trans (Hard.of_ext hxu (by omega)), q3.ext hxu, q4.ext hxu, by simp; omega⟩, Wx.heap.size, t', v1, v2, rfl, hbu, rfl⟩
  case body =>
   rintro l' m pre' x a' Wx ⟨⟨q1, q2, q3, q4, q5⟩, U, t', v1, v2, rfl, hU, rfl⟩ ⟨post', hxp⟩ hsz
   obtain ⟨post, hpo⟩ : ∃ post, pre L.length = (pre k ++ tk.cells s1 s2 :: pre') ++ t'.cells v1 v2 :: post := ⟨_, by rw [HPO2.out, HPS2.out, hxp]; simp; rfl⟩
   refine wpIn_block ?_
   refine wpIn_seq ?_
   refine regionIn_list (F := FW (some l')) ?_
   refine listIn_op rfl rfl fun K hK => ?_
   have y0 : Wx.cell? ⟨W.heap.size, 0, none⟩ = some (.func (.yield l) #[] #[]) := by rw [q4.cell]; rfl
   go_simp
   refine hK _ _ ?_
   clear hK y0
   refine listIn_op rfl rfl fun K hK => ?_
   refine op_load_has 68 _ rfl rfl hU.has agg_T rfl ?_
   refine hK _ _ ?_
   clear hK
   refine listIn_yield rfl _ _ _ rfl rfl rfl (HY.out _ (t'.cells v1 v2) Wx q1 ⟨post, hpo⟩ (by omega)) ?_
   rintro W3 ⟨hJ3, hH3, hK3⟩
   refine listIn_op rfl rfl fun K hK => ?_
   go_simp
   refine hK _ _ ?_
   clear hK
   unfold wpListIn
   have hres : KeepsFrom w6.heap.size Wx W3 ∧ Hard n0 Wx W3 ∧ (J (pre k ++ tk.cells s1 s2 :: (pre' ++ [t'.cells v1 v2])) W3 ∧ Hard n0 W W3 ∧ Marks W.heap.size ds W3 ∧ Blk W3 W.heap.size #[.func (.yield l) #[] #[]] 90 ∧ W.heap.size < W3.heap.size) :=
    ⟨keepsFrom_up hK3 (by omega), hH3, by simpa using hJ3, q2.trans hH3, q3.keeps hK3, hH3.blk q4 (by decide), by have := hH3.below.size; omega⟩
   have HRES := Lib.hid hres
   clear hres
   show Code.wpIn _ _ _ _ _ _ _
   refine wpIn_cond_false rfl ?_
   refine wpIn_skip ?_
   exact HRES.out
  case done =>
   rintro D Wx hD ⟨q1, q2, q3, q4, q5⟩ hh hdef
   go_wp2_with fail
   have hq1 : J (pre (k + 1)) Wx := by rw [HPS2.out]; exact q1
   exact ⟨⟨k + 1, u3, _, u5, _, _, _, _, _, _, _, _, _, _, _, _, _, _, _, _, markOf D :: ds, rfl, by omega, hq1, q2, q3.cons HLT6.out hD (by omega) hdef, q4, q5⟩, by simp [intOf]; omega⟩
 ·obtain rfl : k = L.length := by omega
  go_wp2_with fail
  refine leaves_marks (B := W.heap.size) (fun _ Wx => J (pre L.length) Wx ∧ Hard n0 W Wx ∧ W.heap.size < Wx.heap.size) (fun s A B row hs hg hr => ⟨HJ.out _ A B row hs.1 hg hr, own_hard hs.2.1 hnW (by have := hs.2.2; omega) hg hr, own_size hs.2.2 hg⟩) ?_ ds wr HMK.out ⟨HJK.out, HHK.out, hsk⟩
  rintro Wx ⟨q1, q2, q3⟩
  exact ⟨.tuple #[], by simp [results, Tryz.results60, go_sem], ⟨_, rfl⟩, q1, q2⟩

theorem each1_seq (L : List T) : EachOk L := each1_step L fun t _ => T.ind (P := fun t => EachOk t.l) (fun t ih => each1_step t.l ih) t

open Go.RowKit

/-! ### a region that draws its order and calls yield: loads that hold in every world of the walk are taken first -/
section
variable {m : Nat} {P : Program} {ops : Array Oper} {Q : Exit → Act → World → Prop} {md : Region.Mode} {S : World → Prop}

theorem held_wpOpIn {i : Nat} {o : Oper} {v : Value} {a : Act} (hi : ops[i]? = some o) (hy : YieldsIf P ops S o v a) {K : Act → World → Prop} {w : World} (hS : S w) (h : K (a.put o.dst v) w) :
  wpOpIn Fence.wide m P ops Q i K a w := by
 unfold Go.wpOpIn
 rw [hi]
 rcases hy with ⟨hw, hv⟩ | ⟨hw, rfl⟩
 ·simp only [hw, if_true, Oper.wpIn, show Fence.wide.round = none from rfl, Oper.semAt_none, hv w hS, Oper.uponIn]
  exact ⟨fun _ _ => trivial, h⟩
 ·simp only [hw, Bool.false_eq_true, if_false]
  exact ⟨fun _ _ => trivial, h⟩

theorem held_put {j : Nat} {oi oj : Oper} {v : Value} (hj : ops[j]? = some oj) (hap : oi.apart ops oj = true) (hsi : ∀ cs b, oi.op ≠ .select cs b) (hsj : ∀ cs b, oj.op ≠ .select cs b)
  (hQ : ∀ c a w, Q (.panic c) (a.put oi.dst v) w → Q (.panic c) a w) {K : Act → World → Prop} {a : Act} {w : World} (hy : YieldsIf P ops S oi v a) (h : wpOpIn Fence.wide m P ops Q j K (a.put oi.dst v) w) :
  wpOpIn Fence.wide m P ops Q j (fun a' w' => YieldsIf P ops S oi v a' ∧ K (a'.put oi.dst v) w') a w := by
 obtain ⟨h1, h2, h3⟩ := Oper.apart_spec hap
 have keep : ∀ (b : Act), YieldsIf P ops S oi v b → ∀ u, YieldsIf P ops S oi v (b.put oj.dst u) := fun b hy u => hy.of_same (execOp_put oi hsi b oj.dst u h3) (wanted_put oi b oj.dst u h3)
 have hback : ∀ u (b : Act) W, K ((b.put oi.dst v).put oj.dst u) W → K ((b.put oj.dst u).put oi.dst v) W := fun u b W hk => by rw [← Act.put_comm b v u h2]; exact hk
 unfold wpOpIn at h ⊢
 rw [hj] at h ⊢
 simp only [wanted_put oj a oi.dst v h1] at h ⊢
 by_cases hw : Region.wanted oj (yielded ops a.tmps) = true
 ·rw [if_pos hw] at h ⊢
  unfold Oper.wpIn at h ⊢
  rw [show Fence.wide.round = none from rfl, Oper.semAt_none] at h ⊢
  rw [execOp_put oj hsj a oi.dst v h1] at h
  refine ⟨fun _ _ => trivial, ?_⟩
  have h := h.2
  generalize (execOp a.eval oj).run P w = r at h ⊢
  cases r with
  | halt x w' => cases x <;> simp only [Oper.uponIn] at h ⊢ <;> exact hQ _ _ _ h
  | ok x w' =>
   cases x <;> simp only [Oper.uponIn] at h ⊢
   case value u => exact ⟨keep a hy u, hback _ _ _ h⟩
   case skip => exact ⟨keep a hy _, hback _ _ _ h⟩
   case defer d => exact ⟨keep { a with defers := d :: a.defers } (hy.of_same rfl rfl) _, hback _ { a with defers := d :: a.defers } _ (by rw [← Act.put_defers]; exact h)⟩
   case row row args => exact ⟨h.1, RowsIn.mono h.2 fun u w'' he => ⟨keep a hy u, hback _ _ _ he⟩⟩
   case enter f args =>
    refine ⟨h.1, CallsIn.mono h.2 fun e w'' he => ?_⟩
    cases e with
    | returned u => exact ⟨keep a hy u, hback _ _ _ he⟩
    | panicked c => exact hQ _ _ _ he
    | outgrown => exact he
   case round l f tmps assign body =>
    refine ⟨h.1, RoundIn.mono h.2 fun e w'' he => ?_⟩
    cases e with
    | returned u => exact ⟨keep a hy u, hback _ _ _ he⟩
    | panicked c => exact hQ _ _ _ he
    | outgrown => exact he
 ·rw [if_neg hw] at h ⊢
  exact ⟨fun _ _ => trivial, keep a hy _, hback _ _ _ h.2⟩

theorem opIn_yield {r : Option Nat} {o : Oper} {K : Act → World → Prop} {a : Act} {w : World} (x y : Operand) (ts : Array TypeId) (ho : o.op = .call { callee := .value x, args := #[y], argTypes := ts }) {l : Nat}
  (hx : a.eval x = .func (.yield l) #[] #[]) {v : Value} (hy : a.eval y = v) {R : World → Prop} (hY : Go.Proofs.YthpemngachlehaaGreat.Yields P l #[v] w fun e W' => e = .returned (.bool true) ∧ R W') (h : ∀ W', R W' → K (a.put o.dst (.bool true)) W') : Oper.wpIn (FW r) m P o a w K Q := by
 unfold Oper.wpIn
 refine ⟨fun _ _ => trivial, ?_⟩
 rw [show (FW r).round = r from rfl, semAt_fw (by rw [ho]; rfl)]
 obtain ⟨fn, tmps, assign, body, hrun, hR⟩ := hY (m - 1)
 have hex : (execOp a.eval o).run P w = .ok (.round l fn tmps assign body) w := by
  obtain ⟨dst, op, ty, pos, after, guard⟩ := o
  simp only at ho
  subst ho
  have h1 : execOp a.eval { dst, op := .call { callee := .value x, args := #[y], argTypes := ts }, type := ty, pos, after, guard } = (Deferred.ofValue (a.eval x) (#[y].map a.eval) >>= fun d => invoke d.target d.args) := rfl
  have h2 : (Deferred.ofValue (.func (.yield l) #[] #[]) #[v] >>= fun d => invoke d.target d.args) = Instr.yield l #[v] := rfl
  rw [h1, hx]
  simp only [List.map_toArray, List.map_cons, List.map_nil, hy]
  rw [h2]; exact hrun
 rw [hex, Oper.uponIn_round]
 refine ⟨fun h => by simp [Fence.wide] at h, ?_⟩
 have hR2 : RoundIn (FW r) (m - 1) P l fn tmps assign body w _ := hR
 refine hR2.mono ?_
 rintro e W' ⟨rfl, hS⟩
 exact h W' hS

/-- whatever order comes up, S behind every operation -/
def AnyS (m : Nat) (P : Program) (md : Region.Mode) (ops : Array Oper) (Q : Exit → Act → World → Prop) (S : World → Prop) : Nat → Array Bool → Act → World → Prop
 | 0, listed, a, w => Region.ready md ops listed = [] ∧ Q .normal a w
 | k + 1, listed, a, w => (Region.ready md ops listed = [] → Q .normal a w) ∧ ∀ i ∈ Region.ready md ops listed, wpOpIn Fence.wide m P ops Q i (fun a' w' => S w' ∧ AnyS m P md ops Q S k (listed.setIfInBounds i true) a' w') a w

theorem AnyS.any : ∀ (k : Nat) (listed : Array Bool) (a : Act) (w : World), AnyS m P md ops Q S k listed a w → wpAnyIn Fence.wide m P md ops Q k listed a w
 | 0, _, _, _, h => h
 | k + 1, _, _, _, h => ⟨h.1, fun i hi => wpOpIn_mono (fun a' w' h' => AnyS.any k _ a' w' h'.2) (h.2 i hi)⟩

theorem AnyS.first {i : Nat} {oi : Oper} {v : Value} (hi : ops[i]? = some oi) (hsel : ∀ (j : Nat) (o : Oper) cs b, ops[j]? = some o → o.op ≠ .select cs b) (hQ : ∀ c a w, Q (.panic c) (a.put oi.dst v) w → Q (.panic c) a w) :
  ∀ (k : Nat) (listed : Array Bool) (a : Act) (w : World), (∀ j oj, ops[j]? = some oj → j ≠ i → listed.getD j true = false → (∀ e ∈ oj.after, Region.binds md e = true → e.on ≠ i) → oi.apart ops oj = true) →
   i ∈ Region.ready md ops listed → YieldsIf P ops S oi v a → S w → AnyS m P md ops Q S k (listed.setIfInBounds i true) (a.put oi.dst v) w → AnyS m P md ops Q S (k + 1) listed a w := by
 intro k
 induction k with
 | zero =>
  intro listed a w _ hr hy hS H
  refine ⟨fun h => absurd hr (by rw [h]; simp), fun j hj => ?_⟩
  by_cases hji : j = i
  ·exact hji ▸ held_wpOpIn hi hy hS ⟨hS, H⟩
  ·have := ready_mono hj hji
   rw [H.1] at this
   cases this
 | succ k ih =>
  intro listed a w hfree hr hy hS H
  refine ⟨fun h => absurd hr (by rw [h]; simp), fun j hj => ?_⟩
  by_cases hji : j = i
  ·exact hji ▸ held_wpOpIn hi hy hS ⟨hS, H⟩
  obtain ⟨hjun, oj, hoj, hall⟩ := mem_ready.1 hj
  have hnot : ∀ e ∈ oj.after, Region.binds md e = true → e.on ≠ i := by
   rintro e he hb rfl
   have h1 := hall e he hb
   have h0 := (mem_ready.1 hr).1
   by_cases hlt : e.on < listed.size
   ·simp [hlt] at h0 h1; rw [h0] at h1; cases h1
   ·simp [Array.getElem?_eq_none (Nat.le_of_not_lt hlt)] at h1
  refine wpOpIn_mono (fun a' w' h3 => ⟨h3.2.1, ih (listed.setIfInBounds j true) a' w' (fun k ok hk hki hun hno => hfree k ok hk hki ?_ hno) (ready_mono hr (Ne.symm hji)) h3.1 h3.2.1 ?_⟩)
   (held_put hoj (hfree j oj hoj hji hjun hnot) (fun cs b => hsel i oi cs b hi) (fun cs b => hsel j oj cs b hoj) hQ hy (H.2 j (ready_mono hj hji)))
  ·by_cases hjk : j = k
   ·exact hjk ▸ hjun
   ·rwa [getD_set_ne true hjk] at hun
  ·rw [Array.setIfInBounds_comm _ _ hji]; exact h3.2.2

theorem AnyS.take {i : Nat} {oi : Oper} {v : Value} {k : Nat} {listed : Array Bool} {a : Act} {w : World} (hi : ops[i]? = some oi) (hs : Region.noSelect ops = true) (hf : Region.free md ops listed i = true) (hr : (Region.ready md ops listed).contains i = true)
  (hQ : ∀ c a w, Q (.panic c) (a.put oi.dst v) w → Q (.panic c) a w) (hy : YieldsIf P ops S oi v a) (hS : S w) (h : AnyS m P md ops Q S k (listed.setIfInBounds i true) (a.put oi.dst v) w) : AnyS m P md ops Q S (k + 1) listed a w :=
 AnyS.first hi (Region.noSelect_spec hs) hQ k listed a w (Region.free_spec hi hf) (by simpa using hr) hy hS h

theorem AnyS.done {listed : Array Bool} {a : Act} {w : World} (hr : Region.ready md ops listed = []) (h : Q .normal a w) : ∀ k, AnyS m P md ops Q S k listed a w
 | 0 => ⟨hr, h⟩
 | _ + 1 => ⟨fun _ => h, by rw [hr]; simp⟩

/-- the call of yield, when it alone may come up -/
theorem AnyS.yield {i : Nat} {o : Oper} {k : Nat} {listed : Array Bool} {a : Act} {w : World} (hr : Region.ready md ops listed = [i]) (hi : ops[i]? = some o) (hw : Region.wanted o (yielded ops a.tmps) = true)
  (x y : Operand) (ts : Array TypeId) (ho : o.op = .call { callee := .value x, args := #[y], argTypes := ts }) {l : Nat} (hx : a.eval x = .func (.yield l) #[] #[]) {v : Value} (hy : a.eval y = v) {R : World → Prop}
  (hY : Go.Proofs.YthpemngachlehaaGreat.Yields P l #[v] w fun e W' => e = .returned (.bool true) ∧ R W') (h : ∀ W', R W' → S W' ∧ AnyS m P md ops Q S k (listed.setIfInBounds i true) (a.put o.dst (.bool true)) W') : AnyS m P md ops Q S (k + 1) listed a w := by
 refine ⟨fun h0 => absurd (hr.symm.trans h0) (by simp), ?_⟩
 intro j hj
 rw [hr] at hj
 obtain rfl : j = i := by simpa using hj
 unfold wpOpIn
 rw [hi]
 simp only [hw, if_true]
 exact opIn_yield (r := none) x y ts ho hx hy hY h
/-- the way out of a region that comes to its end -/
def onlyNormal (K : Act → World → Prop) : Exit → Act → World → Prop
 | .normal, a, w => K a w
 | _, _, _ => False

/-- the beginning, in a plain frame -/
theorem wp_region_any_in {id : Nat} {a : Act} {w : World} (hm : P.follows .mixedOrders = true) (hS : S w.drew) (h : S w.drew → AnyS 0 P .any ops (onlyNormal (Q .normal)) S ops.size (Array.replicate ops.size false) a w.drew) : (Code.region id ops true).wp P Q a w :=
 wp_mono ((wpIn_wide (n := 0)).1 (wpIn_region_any hm (AnyS.any _ _ _ _ (h hS)))) fun e _ _ hq => by cases e <;> first | exact hq | exact hq.elim
end
end Go.Proofs.YthpemngachlehaaGreat
