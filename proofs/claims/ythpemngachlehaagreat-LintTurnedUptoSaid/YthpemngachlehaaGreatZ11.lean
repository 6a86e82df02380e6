/- Laws and walks that a claim of this seat leans on: Told, StmtP, Repeat, Graph, Drive, Next, Order, LookM. -/
import Derived.Test.YthpemngachlehaaGreatZ10
import Derived.Test.YthpemngachlehaaGreatZWrites
import Derived.Test.YthpemngachlehaaGreatZAlways
import Derived.Test.YthpemngachlehaaGreatZReads
import Derived.Test.YthpemngachlehaaGreatZ04
import Derived.Test.YthpemngachlehaaGreatZ01
import Derived.Laws.CopyOwn
import Derived.Lib.ItoaNum
import Derived.WalkMore
import Derived.Deep.LoopGhost
import Derived.Test.YthpemngachlehaaGreatZ00
set_option linter.all false
namespace Go.Proofs.YthpemngachlehaaGreat
open Go.RowKit

/-- a call through a function value, by the function's contract, whatever it returns -/
theorem wpList_call_fvx {P : Program} {ops : Array Oper} {rest : List Oper} {o : Oper} {a : Act} {w : World} {Q : Exit → Act → World → Prop} (hw : Region.wanted o (yielded ops a.tmps) = true)
  (x : Operand) (l : List Operand) (ats : Array TypeId) (ho : o.op = .call { callee := .value x, args := l.toArray, argTypes := ats })
  {g : FuncId} {lb : Array Value} (hx : a.eval x = .func (.func g) #[] lb) (eg : Leads P g) {args : List Value} (hargs : l.map a.eval = args) {R : Value → World → Prop}
  (hc : Calls P g (args.toArray ++ lb) w fun r w' => ∃ u, r = .returned u ∧ R u w') (h : ∀ u w', R u w' → wpList P ops Q rest (a.put o.dst u) w') : wpList P ops Q (o :: rest) a w :=
 BigFrame.wpList_want hw fun K hK => by
  obtain ⟨dst, op, ty, pos, after, guard⟩ := o
  simp only at ho
  subst ho
  subst hargs
  rw [← List.map_toArray] at hc
  generalize l.toArray = xs at *
  have hrun : (execOp a.eval { dst, op := .call { callee := .value x, args := xs, argTypes := ats }, type := ty, pos, after, guard }).run P w = .ok (.enter g (xs.map a.eval ++ lb)) w := by
   have h1 : execOp a.eval { dst, op := .call { callee := .value x, args := xs, argTypes := ats }, type := ty, pos, after, guard } = (Deferred.ofValue (a.eval x) (xs.map a.eval) >>= fun d => invoke d.target d.args) := rfl
   have h2 : (Deferred.ofValue (.func (.func g) #[] lb) (xs.map a.eval) >>= fun d => invoke d.target d.args) = callFunc g (#[] ++ xs.map a.eval ++ lb) := rfl
   rw [h1, hx, h2, eg, Array.empty_append]
  unfold Oper.wp
  rw [hrun]
  exact hc.mono fun r w' ⟨u, hr, hR⟩ => by subst hr; exact hK _ _ (h u w' hR)

/-- may a process of a design be asked of? -/
def toldOk (d : Flat) (p : Int) : Bool := decide (checkM d = 0) && decide (0 ≤ p) && decide (p < d.procs.length)

set_option maxRecDepth 100000 in
set_option maxHeartbeats 2000000 in
theorem toldP_calls (d : Flat) (v : Value) (w : World) (h : FlatV w v d) (hok : d.ok) (p : Int) (hpr : -9223372036854775808 ≤ p ∧ p ≤ 9223372036854775807) (g : FuncId) (lb : Array Value) (eg : Leads Tryz.prog g) (res : List Int)
  (hg : checkM d = 0 → 0 ≤ p → ∀ (hp : p.toNat < d.procs.length), ∀ W at' lv, Ext w W → Ints W at' (offsM d.signals d.signals.length) → Ts W lv d.procs[p.toNat].l →
   Calls Tryz.prog g ([at', lv].toArray ++ lb) W fun r w' => ∃ u, r = .returned u ∧ IntRow W.heap.size u res w' ∧ Ext W w') :
  Calls Tryz.prog 37 #[v, .int .i64 p, .func (.func g) #[] lb] w fun r w' => ∃ u, r = .returned (.tuple #[u, .int .i64 (if toldOk d p = true then 0 else 1)]) ∧ IntRow w.heap.size u (if toldOk d p = true then res else []) w' ∧ Ext w w' := by
 have HF := Lib.hid h
 have HG := Lib.hid hg
 obtain ⟨sv, pv, cv, rfl, hS, hP, hC⟩ := h
 have HX := Lib.hid (ext_alloc w (.cells [sv, pv, cv].toArray 26))
 have HB := Lib.hid (Blk.new w [sv, pv, cv].toArray 26)
 have HBT := Lib.hid (Bits_calls d _ _ (HF.out.ext HX.out) hok)
 have hln := hok.procs
 obtain ⟨a0, b0, o0, c0, rfl, hc1, hc2, ha, hr⟩ := hP.open
 have HA := Lib.hid ha
 have HR := Lib.hid hr
 clear hS hP hC ha hr hg
 obtain ⟨q, hq⟩ : ∃ q, toldOk d p = q := ⟨_, rfl⟩
 rw [hq]
 have HQ := Lib.hid hq
 clear hq
 go_enter Tryz.func37, Tryz.ntmps37
 go_upto_region 1 with fail
 have hs1 : (w.alloc (.cells [sv, .slice a0 d.procs.length c0, cv].toArray 26)).heap.size = w.heap.size + 1 := by simp
 generalize w.alloc _ = w1 at *
 by_cases hck : checkM d = 0
 ·have HC0 := Lib.hid hck
  have hbt := HBT.out
  rw [if_pos hck, if_pos hck] at hbt
  have HB1 := Lib.hid hbt
  clear hbt hck HBT
  by_cases hp0 : p < 0
  ·have hqf : q = false := by rw [← HQ.out]; unfold toldOk; simp; omega
   subst hqf
   go_wp2_with (first | ((with_reducible show wpList _ _ _ (⟨_, Op.load 26 _, _, _, _, _⟩ :: _) _ _); refine wpList_load_has rfl 26 _ rfl rfl (HB.out.has) agg_Flat rfl ?_) | (go_at_call 21; refine HB1.out.mono ?_; rintro r w2 ⟨u, rfl, hr2, hx2⟩))
   refine bodyPost_ret (v := .tuple #[.slice Option.none 0 0, .int .i64 1]) (by simp [results, Tryz.results37, go_sem]) rfl ⟨.slice Option.none 0 0, rfl, by exact IntRow.nil _ _, HX.out.trans hx2⟩
  ·by_cases hpn : p < d.procs.length
   ·have hqf : q = true := by rw [← HQ.out]; unfold toldOk; simp [HC0.out]; omega
    subst hqf
    obtain ⟨k, rfl⟩ : ∃ k : Nat, p = k := ⟨p.toNat, by omega⟩
    have hk : k < d.procs.length := by omega
    obtain rfl := HA.out (by omega)
    obtain ⟨s1, hhas, hts⟩ := Procs.get HR.out hk
    have HHAS := Lib.hid hhas
    have HTS := Lib.hid hts
    have hg := HG.out HC0.out (by omega) (by simpa using hk)
    simp only [Int.toNat_natCast] at hg
    have HG2 := Lib.hid hg
    clear hhas hts hg
    go_upto_region 4 with (first | ((with_reducible show wpList _ _ _ (⟨_, Op.load 26 _, _, _, _, _⟩ :: _) _ _); refine wpList_load_has rfl 26 _ rfl rfl (HB.out.has) agg_Flat rfl ?_) | (go_at_call 21; refine HB1.out.mono ?_; rintro r w2 ⟨u, rfl, hr2, hx2⟩; have z1 := ((HB.out).ext hx2).has 1 _ rfl))
    have hX2 := HX.out.trans hx2
    have y1 := (HHAS.out.ext hX2) 1 _ rfl
    have hcall := HG2.out w2 u s1 hX2 hr2.cells (HTS.out.ext hX2)
    go_wp2_with ((with_reducible show wpList _ _ _ (⟨_, Op.call { callee := .value (.tmp _), args := _, argTypes := _ }, _, _, _, _⟩ :: _) _ _); refine wpList_call_fvx rfl _ [_, _] _ rfl rfl eg rfl hcall ?_; rintro u3 w3 ⟨hr3, hx3⟩)
    refine bodyPost_ret (v := .tuple #[u3, .int .i64 0]) (by simp [results, Tryz.results37, go_sem]) rfl ⟨u3, rfl, by exact hr3.less (by have := hX2.size; omega), hX2.trans hx3⟩
   ·have hqf : q = false := by rw [← HQ.out]; unfold toldOk; simp; omega
    subst hqf
    go_wp2_with (first | ((with_reducible show wpList _ _ _ (⟨_, Op.load 26 _, _, _, _, _⟩ :: _) _ _); refine wpList_load_has rfl 26 _ rfl rfl (HB.out.has) agg_Flat rfl ?_) | (go_at_call 21; refine HB1.out.mono ?_; rintro r w2 ⟨u, rfl, hr2, hx2⟩; have z1 := ((HB.out).ext hx2).has 1 _ rfl))
    refine bodyPost_ret (v := .tuple #[.slice Option.none 0 0, .int .i64 1]) (by simp [results, Tryz.results37, go_sem]) rfl ⟨.slice Option.none 0 0, rfl, by exact IntRow.nil _ _, HX.out.trans hx2⟩
 ·have hqf : q = false := by rw [← HQ.out]; unfold toldOk; simp [hck]
  subst hqf
  have hbt := HBT.out
  rw [if_neg hck, if_neg hck] at hbt
  have HB1 := Lib.hid hbt
  clear hbt hck HBT
  go_wp2_with (first | ((with_reducible show wpList _ _ _ (⟨_, Op.load 26 _, _, _, _, _⟩ :: _) _ _); refine wpList_load_has rfl 26 _ rfl rfl (HB.out.has) agg_Flat rfl ?_) | (go_at_call 21; refine HB1.out.mono ?_; rintro r w2 ⟨u, rfl, hr2, hx2⟩))
  refine bodyPost_ret (v := .tuple #[.slice Option.none 0 0, .int .i64 1]) (by simp [results, Tryz.results37, go_sem]) rfl ⟨.slice Option.none 0 0, rfl, by exact IntRow.nil _ _, HX.out.trans hx2⟩

open Go.RowKit

/-! ### stmt.Writes, stmt.Reads, stmt.Always of a process -/
theorem always_calls (offs : List Int) (hob : ∀ o ∈ offs, 0 ≤ o ∧ o ≤ 1099511627776) (l : List T) (hok : ∀ t ∈ l, AlwOk offs t) (hn : sumBy nodesT l ≤ 1048576) : AlwaysSaid offs l := by
 have key : ∀ t : T, AlwOk offs t → nodesT t ≤ 1048576 → AlwaysSaid offs t.l ∧ ∀ x ∈ t.l, AlwaysSaid offs x.l := by
  intro t
  induction t using T.ind with
  | h t ih =>
   intro h1 h2
   have h3 := ((AlwOk_iff _ _).1 h1).2.2
   have h4 := nodesT_eq t
   have ih' : ∀ x ∈ t.l, AlwaysSaid offs x.l ∧ ∀ y ∈ x.l, AlwaysSaid offs y.l := fun x hx => ih x hx (h3 x hx) (by have := le_sumBy nodesT t.l x hx; omega)
   exact ⟨always_step offs hob t.l h3 (by omega) (fun x hx => (ih' x hx).1) (fun x hx => (ih' x hx).2), fun x hx => (ih' x hx).1⟩
 exact always_step offs hob l hok hn (fun t ht => (key t (hok t ht) (by have := le_sumBy nodesT l t ht; omega)).1) (fun t ht => (key t (hok t ht) (by have := le_sumBy nodesT l t ht; omega)).2)

/-! what a shaped design gives -/
theorem offsM_bound (ls : List Signal) (hw : ∀ x ∈ ls, 1 ≤ x.w ∧ x.w ≤ 64) (hl : ls.length ≤ 1048576) : ∀ o ∈ offsM ls ls.length, 0 ≤ o ∧ o ≤ 1099511627776 := by
 intro o ho
 obtain ⟨k, hk, rfl⟩ := List.mem_map.1 ho
 have := sumW_le ls hw k (by have := List.mem_range.1 hk; omega)
 have := List.mem_range.1 hk
 omega
/-- a statement's parts are as a shaped one's are -/
def StD (ls : List Signal) : T → Prop
 | ⟨op, sig, hi, lo, e, l⟩ => (op = 1 → slice ls sig hi lo = true) ∧ (op = 2 ∨ op = 3 → 0 < l.length) ∧ (∀ x ∈ e, shape ls x = true) ∧ oks l
where oks : List T → Prop
 | [] => True
 | t :: l => StD ls t ∧ oks l
theorem StD.oks_iff (ls : List Signal) (l : List T) : StD.oks ls l ↔ ∀ t ∈ l, StD ls t := by
 induction l with
 | nil => simp [StD.oks]
 | cons e l ih => simp [StD.oks, ih]
theorem StD_iff (ls : List Signal) (t : T) : StD ls t ↔ (t.op = 1 → slice ls t.sig t.hi t.lo = true) ∧ (t.op = 2 ∨ t.op = 3 → 0 < t.l.length) ∧ (∀ x ∈ t.e, shape ls x = true) ∧ ∀ x ∈ t.l, StD ls x := by
 cases t; simp [StD, StD.oks_iff]
theorem stD_of_shapeT (ls : List Signal) (t : T) : (shapeT ls t = true → StD ls t) ∧ (shapeT.armT ls t = true → StD ls t) := by
 induction t using T.ind with
 | h t ih =>
  have harms : ∀ l : List T, (∀ x ∈ l, x ∈ t.l) → shapeT.arms ls l = true → ∀ x ∈ l, StD ls x := by
   intro l
   induction l with
   | nil => intro _ _ x hx; cases hx
   | cons y l ih2 =>
    intro hm ha x hx
    rw [shapeT.arms, Bool.and_eq_true, Bool.and_eq_true] at ha
    rcases List.mem_cons.1 hx with e | hx
    ·rw [e]; exact (ih _ (hm _ (by simp))).2 ha.1.2
    ·exact ih2 (fun z hz => hm z (by simp [hz])) ha.2 x hx
  constructor
  ·intro ht
   rw [shapeT_eq] at ht
   split at ht
   ·cases ht
   ·rename_i h0
    have hE : ∀ x ∈ t.e, shape ls x = true := by
     intro x hx
     have h0' : (t.e.any fun x => !shape ls x) = false := by
      cases hh : (t.e.any fun x => !shape ls x)
      ·rfl
      ·exfalso; apply h0; rw [hh]; rfl
     have := List.any_eq_false.1 h0' x hx
     simpa using this
    split at ht
    ·rename_i h3
     simp only [Bool.and_eq_true, decide_eq_true_eq] at ht
     exact (StD_iff ls t).2 ⟨fun h1 => by omega, fun _ => ht.2.2, hE, harms t.l (fun _ h => h) ht.2.1⟩
    ·split at ht
     ·rename_i h3 h1
      simp only [Bool.and_eq_true, decide_eq_true_eq] at ht
      have hl : t.l = [] := List.eq_nil_of_length_eq_zero ht.1.2
      exact (StD_iff ls t).2 ⟨fun _ => ht.2, fun h => by omega, hE, by rw [hl]; intro x hx; cases hx⟩
     ·split at ht
      ·simp only [Bool.and_eq_true, List.all_eq_true, decide_eq_true_eq] at ht
       exact (StD_iff ls t).2 ⟨fun h => by omega, fun h => by omega, hE, fun x hx => (ih x hx).1 (ht.2 x hx)⟩
      ·split at ht
       ·simp only [Bool.and_eq_true, List.all_eq_true] at ht
        exact (StD_iff ls t).2 ⟨fun h => by omega, fun h => by omega, hE, fun x hx => (ih x hx).1 (ht.2 x hx)⟩
       ·cases ht
  ·intro ht
   rw [shapeT.armT_eq] at ht
   simp only [Bool.and_eq_true, decide_eq_true_eq, List.all_eq_true] at ht
   exact (StD_iff ls t).2 ⟨fun h => by omega, fun h => by omega, fun x hx => (ht.1.2 x hx).2, fun x hx => (ih x hx).1 (ht.2 x hx)⟩
theorem stD_of_check {d : Flat} (h : checkM d = 0) : ∀ p ∈ d.procs, ∀ t ∈ p.l, StD d.signals t := by
 have h1 := checkM_shaped h
 unfold shapedM at h1
 simp only [Bool.and_eq_true, Bool.not_eq_true', List.any_eq_false, Bool.not_eq_eq_eq_not, Bool.not_true] at h1
 intro p hp t ht
 refine (stD_of_shapeT d.signals t).1 ?_
 have := h1.1.2 p hp
 simp only [List.any_eq_true, not_exists, not_and] at this
 simpa using this t ht

/-! each statement that stands in statements -/
theorem eachT_all {P : T → Prop} (hP : ∀ t, P t → ∀ x ∈ t.l, P x) (t : T) : P t → ∀ x ∈ eachT t, P x := by
 induction t using T.ind with
 | h t ih =>
  intro ht x hx
  rw [eachT_eq, eachTs_eq] at hx
  rcases List.mem_cons.1 hx with e | hx
  ·rw [e]; exact ht
  ·obtain ⟨m, hm, hx⟩ := List.mem_flatten.1 hx
   obtain ⟨y, hy, rfl⟩ := List.mem_map.1 hm
   exact ih y hy (hP t ht y hy) x hx
theorem eachTs_all {P : T → Prop} (hP : ∀ t, P t → ∀ x ∈ t.l, P x) (l : List T) (h : ∀ t ∈ l, P t) : ∀ t ∈ eachT.eachTs l, P t := by
 intro x hx
 rw [eachTs_eq] at hx
 obtain ⟨m, hm, hx⟩ := List.mem_flatten.1 hx
 obtain ⟨y, hy, rfl⟩ := List.mem_map.1 hm
 exact eachT_all hP y (h y hy) x hx
def eLen (t : T) : Nat := 1 + sumBy nodes t.e
theorem eachT_sum (t : T) : sumBy eLen (eachT t) = nodesT t := by
 induction t using T.ind with
 | h t ih =>
  have key : ∀ l : List T, (∀ x ∈ l, x ∈ t.l) → sumBy eLen (eachT.eachTs l) = sumBy nodesT l := by
   intro l
   induction l with
   | nil => intro _; rfl
   | cons y l ih2 =>
    intro hm
    rw [eachT.eachTs, sumBy_append, ih y (hm y (by simp)), ih2 fun z hz => hm z (by simp [hz])]
    rfl
  rw [eachT_eq, sumBy, key t.l fun _ h => h, nodesT_eq, eLen]
  omega
theorem eachTs_sum (l : List T) : sumBy eLen (eachT.eachTs l) = sumBy nodesT l := by
 induction l with
 | nil => rfl
 | cons y l ih => rw [eachT.eachTs, sumBy_append, eachT_sum, ih]; rfl
theorem eachTs_length (l : List T) : (eachT.eachTs l).length ≤ sumBy nodesT l := by
 rw [← eachTs_sum]
 exact length_le_sumBy eLen _ fun t _ => by unfold eLen; omega
theorem partsE_length (ls : List Signal) (e : E) : (partsE ls e).length ≤ nodes e := by
 induction e using E.ind with
 | h e ih =>
  have key : ∀ l : List E, (∀ x ∈ l, x ∈ e.l) → ((l.map (partsE ls)).flatten).length ≤ sumBy nodes l := by
   intro l
   induction l with
   | nil => intro _; simp
   | cons y l ih2 =>
    intro hm
    have q1 := ih y (hm y (by simp))
    have q2 := ih2 fun z hz => hm z (by simp [hz])
    simp only [List.map_cons, List.flatten_cons, List.length_append, sumBy]
    omega
  have h0 : (spans0 ls e.op e.sig e.hi e.lo).length ≤ 1 := by
   unfold spans0
   split
   ·simp
   ·split <;> simp
  have := key e.l fun _ h => h
  rw [partsE_eq, List.length_append, nodes_eq]
  omega
theorem rS_length (ls : List Signal) (ts : List T) : (rS ls ts ts.length).length ≤ sumBy eLen ts := by
 unfold rS
 rw [List.take_length]
 induction ts with
 | nil => simp
 | cons t ts ih =>
  have key : ∀ l : List E, ((l.map (partsE ls)).flatten).length ≤ sumBy nodes l := by
   intro l
   induction l with
   | nil => simp
   | cons y l ih2 =>
    have := partsE_length ls y
    simp only [List.map_cons, List.flatten_cons, List.length_append, sumBy]
    omega
  have := key t.e
  simp only [List.map_cons, List.flatten_cons, List.length_append, sumBy, eLen] at ih ⊢
  omega

/-! the spans of a shaped design may be asked of -/
theorem sigW_64 (ls : List Signal) (hw : ∀ x ∈ ls, 1 ≤ x.w ∧ x.w ≤ 64) (sig : Int) : sigW ls sig ≤ 64 := by
 unfold sigW
 cases h : ls[sig.toNat]? with
 | none => simp
 | some s => exact (hw s (List.mem_of_getElem? h)).2
theorem numOk_slice (ls : List Signal) (hw : ∀ x ∈ ls, 1 ≤ x.w ∧ x.w ≤ 64) {sig hi lo : Int} (h : slice ls sig hi lo = true) : NumOk (offsM ls ls.length) ⟨sig, hi, lo⟩ := by
 unfold slice at h
 simp only [Bool.and_eq_true, decide_eq_true_eq] at h
 have := sigW_64 ls hw sig
 have := offsM_length ls ls.length
 unfold NumOk
 simp only
 omega
theorem alwOk_of (ls : List Signal) (hw : ∀ x ∈ ls, 1 ≤ x.w ∧ x.w ≤ 64) (t : T) : StD ls t → AlwOk (offsM ls ls.length) t := by
 induction t using T.ind with
 | h t ih =>
  intro h
  obtain ⟨h1, h2, h3, h4⟩ := (StD_iff _ _).1 h
  exact (AlwOk_iff _ _).2 ⟨fun e => numOk_slice ls hw (h1 e), h2, fun x hx => ih x hx (h4 x hx)⟩
theorem partsE_ok (ls : List Signal) (hw : ∀ x ∈ ls, 1 ≤ x.w ∧ x.w ≤ 64) (e : E) : shape ls e = true → ∀ s ∈ partsE ls e, NumOk (offsM ls ls.length) s := by
 induction e using E.ind with
 | h e ih =>
  intro he s hs
  rw [shape_eq, Bool.and_eq_true, List.all_eq_true] at he
  rw [partsE_eq, List.mem_append] at hs
  rcases hs with hs | hs
  ·unfold spans0 at hs
   split at hs
   ·rename_i h2
    have h0 := he.1
    rw [h2] at h0
    simp [shape0] at h0
    rw [List.mem_singleton.1 hs]
    exact numOk_slice ls hw h0.1.2
   ·split at hs
    ·rename_i h3
     have h0 := he.1
     rw [h3] at h0
     simp [shape0] at h0
     rw [List.mem_singleton.1 hs]
     have := sigW_64 ls hw e.sig
     have := offsM_length ls ls.length
     unfold NumOk
     simp only
     omega
    ·cases hs
  ·obtain ⟨m, hm, hs⟩ := List.mem_flatten.1 hs
   obtain ⟨y, hy, rfl⟩ := List.mem_map.1 hm
   exact ih y hy (he.2 y hy) s hs

/-! the models -/
def procL (d : Flat) (p : Int) : List T := match d.procs[p.toNat]? with | some x => x.l | none => []
def offsD (d : Flat) : List Int := offsM d.signals d.signals.length
def spansW (l : List T) : List Span := wS (eachT.eachTs l) (eachT.eachTs l).length
def spansR (ls : List Signal) (l : List T) : List Span := rS ls (eachT.eachTs l) (eachT.eachTs l).length
def writesM (d : Flat) (p : Int) : List Int := numbersM (offsD d) (spansW (procL d p))
def readsM (d : Flat) (p : Int) : List Int := numbersM (offsD d) (spansR d.signals (procL d p))
def alwaysM (d : Flat) (p : Int) : List Int := alwM (offsD d) (procL d p)

theorem procL_get {d : Flat} {p : Int} (hp : p.toNat < d.procs.length) : procL d p = d.procs[p.toNat].l := by
 unfold procL; rw [List.getElem?_eq_getElem hp]
theorem nodes_proc (d : Flat) (k : Nat) (hk : k < d.procs.length) : sumBy nodesT d.procs[k].l ≤ mNodes d := by
 have h1 := le_sumBy (fun p : Proc => sumBy nodesT p.l) d.procs _ (List.getElem_mem hk)
 obtain ⟨a, b, c⟩ := d
 rw [mNodes_eq]
 simp only at h1 ⊢
 omega
structure ProcD (d : Flat) (l : List T) : Prop where
 ow : ∀ x ∈ d.signals, 1 ≤ x.w ∧ x.w ≤ 64
 st : ∀ t ∈ l, StD d.signals t
 nodes : sumBy nodesT l ≤ 1048576
 sigs : d.signals.length ≤ 1048576
theorem procD_of {d : Flat} (hok : d.ok) (hc : checkM d = 0) (k : Nat) (hk : k < d.procs.length) : ProcD d d.procs[k].l where
 ow := checkM_w hc
 st := stD_of_check hc _ (List.getElem_mem hk)
 nodes := Nat.le_trans (nodes_proc d k hk) hok.nodes
 sigs := hok.signals
theorem ProcD.each {d : Flat} {l : List T} (h : ProcD d l) : ∀ t ∈ eachT.eachTs l, StD d.signals t :=
 eachTs_all (fun t ht => ((StD_iff _ _).1 ht).2.2.2) l h.st
theorem ProcD.w {d : Flat} {l : List T} (h : ProcD d l) : ∀ s ∈ spansW l, NumOk (offsM d.signals d.signals.length) s := by
 intro s hs
 unfold spansW wS at hs
 obtain ⟨t, ht, rfl⟩ := List.mem_map.1 hs
 obtain ⟨ht, ho⟩ := List.mem_filter.1 ht
 exact numOk_slice _ h.ow (((StD_iff _ _).1 (h.each t (List.mem_of_mem_take ht))).1 (by simpa using ho))
theorem ProcD.r {d : Flat} {l : List T} (h : ProcD d l) : ∀ s ∈ spansR d.signals l, NumOk (offsM d.signals d.signals.length) s := by
 intro s hs
 unfold spansR rS at hs
 obtain ⟨m, hm, hs⟩ := List.mem_flatten.1 hs
 obtain ⟨t, ht, rfl⟩ := List.mem_map.1 hm
 obtain ⟨m, hm, hs⟩ := List.mem_flatten.1 hs
 obtain ⟨e, he, rfl⟩ := List.mem_map.1 hm
 exact partsE_ok _ h.ow e (((StD_iff _ _).1 (h.each t (List.mem_of_mem_take ht))).2.2.1 e he) s hs

theorem leads_Writes1 : Leads Tryz.prog 46 := leads_of Tryz.func46 (by kernel_rfl) rfl
theorem leads_Reads1 : Leads Tryz.prog 38 := leads_of Tryz.func38 (by kernel_rfl) rfl
theorem leads_always : Leads Tryz.prog 64 := leads_of Tryz.func64 (by kernel_rfl) rfl

set_option maxHeartbeats 1000000 in
theorem Writes_calls (d : Flat) (v : Value) (w : World) (h : FlatV w v d) (hok : d.ok) (p : Int) (hpr : -9223372036854775808 ≤ p ∧ p ≤ 9223372036854775807) :
  Calls Tryz.prog 24 #[v, .int .i64 p] w fun r w' => ∃ u, r = .returned (.tuple #[u, .int .i64 (if toldOk d p = true then 0 else 1)]) ∧ IntRow w.heap.size u (if toldOk d p = true then writesM d p else []) w' ∧ Ext w w' := by
 have HF := Lib.hid h
 obtain ⟨sv, pv, cv, rfl, hS, hP, hC⟩ := h
 have hx := ext_alloc w (.cells [sv, pv, cv].toArray 26)
 have hb := Blk.new w [sv, pv, cv].toArray 26
 have HX := Lib.hid hx
 have HT := Lib.hid (toldP_calls d _ _ (HF.out.ext hx) hok p hpr 46 #[] leads_Writes1 (writesM d p) (fun hc h0 hp W at' lv hW ho hl => by
  have hD := procD_of hok hc p.toNat hp
  have := Writes1_calls (offsM d.signals d.signals.length) d.procs[p.toNat].l at' lv W ho hl hD.w (offsM_bound _ hD.ow hD.sigs) (Nat.le_trans (eachTs_length _) hD.nodes)
  unfold writesM offsD spansW
  rw [procL_get hp]
  exact this))
 clear hS hP hC
 obtain ⟨ec, hec⟩ : ∃ ec : Int, (if toldOk d p = true then 0 else 1) = ec := ⟨_, rfl⟩
 obtain ⟨rs, hrs⟩ : ∃ rs, (if toldOk d p = true then writesM d p else []) = rs := ⟨_, rfl⟩
 rw [hec, hrs] at HT ⊢
 clear hec hrs
 go_enter Tryz.func24, Tryz.ntmps24
 go_upto_region 1 with fail
 generalize w.alloc _ = w1 at *
 go_wp2_with (first | ((with_reducible show wpList _ _ _ (⟨_, Op.load 26 _, _, _, _, _⟩ :: _) _ _); refine wpList_load_has rfl 26 _ rfl rfl (hb.has) agg_Flat rfl ?_) | (go_at_call 37; refine HT.out.mono ?_; rintro r w2 ⟨u, rfl, hr2, hx2⟩))
 refine bodyPost_ret (v := .tuple #[u, .int .i64 ec]) (by simp [results, Tryz.results24, go_sem]) rfl ⟨u, rfl, hr2.less HX.out.size, HX.out.trans hx2⟩

set_option maxHeartbeats 1000000 in
theorem Always_calls (d : Flat) (v : Value) (w : World) (h : FlatV w v d) (hok : d.ok) (p : Int) (hpr : -9223372036854775808 ≤ p ∧ p ≤ 9223372036854775807) :
  Calls Tryz.prog 43 #[v, .int .i64 p] w fun r w' => ∃ u, r = .returned (.tuple #[u, .int .i64 (if toldOk d p = true then 0 else 1)]) ∧ IntRow w.heap.size u (if toldOk d p = true then alwaysM d p else []) w' ∧ Ext w w' := by
 have HF := Lib.hid h
 obtain ⟨sv, pv, cv, rfl, hS, hP, hC⟩ := h
 have hx := ext_alloc w (.cells [sv, pv, cv].toArray 26)
 have hb := Blk.new w [sv, pv, cv].toArray 26
 have HX := Lib.hid hx
 have HT := Lib.hid (toldP_calls d _ _ (HF.out.ext hx) hok p hpr 64 #[] leads_always (alwaysM d p) (fun hc h0 hp W at' lv hW ho hl => by
  have hD := procD_of hok hc p.toNat hp
  have := always_calls (offsM d.signals d.signals.length) (offsM_bound _ hD.ow hD.sigs) d.procs[p.toNat].l (fun t ht => alwOk_of _ hD.ow t (hD.st t ht)) hD.nodes W at' lv ho hl
  unfold alwaysM offsD
  rw [procL_get hp]
  exact this))
 clear hS hP hC
 obtain ⟨ec, hec⟩ : ∃ ec : Int, (if toldOk d p = true then 0 else 1) = ec := ⟨_, rfl⟩
 obtain ⟨rs, hrs⟩ : ∃ rs, (if toldOk d p = true then alwaysM d p else []) = rs := ⟨_, rfl⟩
 rw [hec, hrs] at HT ⊢
 clear hec hrs
 go_enter Tryz.func43, Tryz.ntmps43
 go_upto_region 1 with fail
 generalize w.alloc _ = w1 at *
 go_wp2_with (first | ((with_reducible show wpList _ _ _ (⟨_, Op.load 26 _, _, _, _, _⟩ :: _) _ _); refine wpList_load_has rfl 26 _ rfl rfl (hb.has) agg_Flat rfl ?_) | (go_at_call 37; refine HT.out.mono ?_; rintro r w2 ⟨u, rfl, hr2, hx2⟩))
 refine bodyPost_ret (v := .tuple #[u, .int .i64 ec]) (by simp [results, Tryz.results43, go_sem]) rfl ⟨u, rfl, hr2.less HX.out.size, HX.out.trans hx2⟩

set_option maxHeartbeats 1000000 in
theorem Reads_calls (d : Flat) (v : Value) (w : World) (h : FlatV w v d) (hok : d.ok) (p : Int) (hpr : -9223372036854775808 ≤ p ∧ p ≤ 9223372036854775807) :
  Calls Tryz.prog 20 #[v, .int .i64 p] w fun r w' => ∃ u, r = .returned (.tuple #[u, .int .i64 (if toldOk d p = true then 0 else 1)]) ∧ IntRow w.heap.size u (if toldOk d p = true then readsM d p else []) w' ∧ Ext w w' := by
 have HF := Lib.hid h
 obtain ⟨sv, pv, cv, rfl, hS, hP, hC⟩ := h
 have hx := ext_alloc w (.cells [sv, pv, cv].toArray 26)
 have hb := Blk.new w [sv, pv, cv].toArray 26
 have HX := Lib.hid hx
 have h3 : [sv, pv, cv].all (·.oneCell') = true := by simp [hS.one, hP.one, hC.one]
 have HT := Lib.hid (toldP_calls d _ _ (HF.out.ext hx) hok p hpr 38 #[.pointer (some ⟨w.heap.size, 0, none⟩)] leads_Reads1 (readsM d p) (fun hc h0 hp W at' lv hW ho hl => by
  have hD := procD_of hok hc p.toNat hp
  have := Reads1_calls d.signals hD.ow (offsM d.signals d.signals.length) d.procs[p.toNat].l at' lv sv pv cv w.heap.size W ho hl (hS.ext (hx.trans hW)) h3 (hb.ext hW)
   (fun t ht e he => indOk_of_shape _ e (((StD_iff _ _).1 (hD.each t ht)).2.2.1 e he)) hD.r (offsM_bound _ hD.ow hD.sigs) (Nat.le_trans (rS_length _ _) (by rw [eachTs_sum]; exact hD.nodes))
  unfold readsM offsD spansR
  rw [procL_get hp]
  exact this))
 clear hS hP hC
 obtain ⟨ec, hec⟩ : ∃ ec : Int, (if toldOk d p = true then 0 else 1) = ec := ⟨_, rfl⟩
 obtain ⟨rs, hrs⟩ : ∃ rs, (if toldOk d p = true then readsM d p else []) = rs := ⟨_, rfl⟩
 rw [hec, hrs] at HT ⊢
 clear hec hrs
 go_enter Tryz.func20, Tryz.ntmps20
 go_upto_region 1 with fail
 generalize w.alloc _ = w1 at *
 go_wp2_with (first | ((with_reducible show wpList _ _ _ (⟨_, Op.load 26 _, _, _, _, _⟩ :: _) _ _); refine wpList_load_has rfl 26 _ rfl rfl (hb.has) agg_Flat rfl ?_) | (go_at_call 37; refine HT.out.mono ?_; rintro r w2 ⟨u, rfl, hr2, hx2⟩))
 refine bodyPost_ret (v := .tuple #[u, .int .i64 ec]) (by simp [results, Tryz.results20, go_sem]) rfl ⟨u, rfl, hr2.less HX.out.size, HX.out.trans hx2⟩

open Go.RowKit

/-! ### slices.Repeat, of one number -/
theorem splice_rep (a : Int) (m c n : Nat) (h : m + c ≤ n) : splice ((List.replicate m (Value.int .i64 a)) ++ List.replicate (n - m) (Value.int .i64 0)) m (List.replicate c (Value.int .i64 a)) = List.replicate (m + c) (Value.int .i64 a) ++ List.replicate (n - (m + c)) (Value.int .i64 0) := by
 unfold splice
 rw [List.take_left' (by simp), List.length_replicate, List.drop_append, ← List.append_assoc, List.replicate_append_replicate]
 simp
 omega

set_option maxRecDepth 100000 in
set_option maxHeartbeats 1000000 in
theorem repeat_calls (a : Int) (n : Nat) (hn : n ≤ 1073741824) (B : Nat) (w : World) (hb : Blk w B #[.int .i64 a] 3) :
  Calls Tryz.prog 29 #[.slice (some ⟨B, 0, none⟩) 1 1, .int .i64 n] w fun r w' => ∃ g, r = .returned (.slice (some ⟨g, 0, none⟩) n n) ∧ w.heap.size ≤ g ∧ Blk w' g (List.replicate n (Value.int .i64 a)).toArray 3 ∧ Ext w w' := by
 have HM := Lib.hid (show Calls Tryz.prog 51 #[.int .u64 1, .int .u64 (n : Int)] w fun e w' => e = .returned (.tuple #[.int .u64 0, .int .u64 (n : Int)]) ∧ w' = w from by
  have := Tryz.bits_Mul 1 n (by omega) (by omega) w
  rw [Nat.one_mul, Nat.div_eq_of_lt (by omega), Nat.mod_eq_of_lt (by omega)] at this
  exact this)
 have HB := Lib.hid hb
 clear hb
 go_enter Tryz.func29, Tryz.ntmps29
 go_wp2_with (first | (go_at_call 51; refine HM.out.mono ?_; rintro r w1 ⟨rfl, rfl⟩) | ((with_reducible show wpList _ _ _ (⟨_, Op.makeSlice _ _ _, _, _, _, _⟩ :: _) _ _); refine Hid.out ?_))
 refine Lib.hid ?_
 have hx2 := ext_alloc w1 (.cells (madeCells (Value.int .i64 0).cells (n * 1)) 3)
 have hb2 := Blk.new w1 (madeCells (Value.int .i64 0).cells (n * 1)) 3
 rw [show madeCells (Value.int .i64 0).cells (n * 1) = (List.replicate n (Value.int .i64 0)).toArray by rw [Nat.mul_one]; exact madeCells_one _ _] at hx2 hb2
 refine wpList_mk rfl _ _ _ rfl (n := n) rfl rfl Tryz.underlying29 info_int (by omega) (by omega) ?_
 rw [show madeCells (Value.int .i64 0).cells (n * 1) = (List.replicate n (Value.int .i64 0)).toArray by rw [Nat.mul_one]; exact madeCells_one _ _]
 have hs2 : (w1.alloc (.cells (List.replicate n (Value.int .i64 0)).toArray 3)).heap.size = w1.heap.size + 1 := by simp
 have hB2 := HB.out.ext hx2
 generalize w1.alloc _ = w2 at *
 obtain ⟨g, hg⟩ : ∃ g, w1.heap.size = g := ⟨_, rfl⟩
 rw [hg] at hb2 hs2 ⊢
 have HGG := Lib.hid hg
 clear hg
 go_wp2_with ((with_reducible show wpList _ _ _ (⟨_, Op.call { callee := .builtin .copy, args := _, argTypes := _ }, _, _, _, _⟩ :: _) _ _); refine Hid.out ?_)
 refine Lib.hid ?_
 obtain ⟨m0, hm0⟩ : ∃ m0, m0 = Nat.min 1 n := ⟨_, rfl⟩
 have hm1 : m0 ≤ n ∧ (0 < n → 0 < m0) := by rw [hm0]; constructor <;> first | exact Nat.min_le_right _ _ | (intro h; show 0 < min 1 n; omega)
 refine wpList_copy_splice rfl _ _ 29 29 rfl 3 Tryz.underlying29 (by kernel_rfl) _ _ n n 1 1 rfl rfl g 0 (List.replicate 0 (Value.int .i64 a) ++ List.replicate (n - 0) (Value.int .i64 0)) 3 (by simpa [Blk] using hb2)
  (List.replicate m0 (Value.int .i64 a)) (by rw [List.length_replicate]; exact hm0) (fun hp => ⟨rfl, ⟨B, 0, none⟩, rfl, fun j v hj => ?_⟩) (by simp; omega) (by intro v hv; rw [List.eq_of_mem_replicate hv]; rfl) w1.heap.size w1 hx2 (by rw [HGG.out]; exact Nat.le_refl _) ?_
 ·have hm1' : m0 ≤ 1 := by rw [hm0]; exact Nat.min_le_left _ _
  rw [List.getElem?_replicate] at hj
  split at hj
  ·rename_i hlt
   have : j = 0 := by omega
   subst this
   injection hj with hj
   subst hj
   exact hB2.has (cs := [.int .i64 a]) 0 _ rfl
  ·cases hj
 intro w3 hb3 hx3
 have hb3' := hb3.out
 rw [splice_rep a 0 m0 n (by omega), Nat.zero_add] at hb3'
 have HB3 := Lib.hid hb3'
 rw [List.length_replicate]
 clear hb3 hb3' hb2 hB2 hs2 hx2 hm0
 generalize w2.heap = hw2 at *
 go_wp2_with fail
 go_loopw [8] (fun i wr => ∃ m : Nat, m ≤ n ∧ (0 < n → 0 < m) ∧ i = .int .i64 m ∧ Blk wr g (List.replicate m (Value.int .i64 a) ++ List.replicate (n - m) (Value.int .i64 0)).toArray 3 ∧ Ext w1 wr) (fun i _ => n - (intOf i).toNat)
 case atStart => exact ⟨m0, hm1.1, hm1.2, rfl, HB3.out, hx3⟩
 case round =>
  obtain ⟨m, hm, hmp, rfl, hbr, hxr⟩ := hrel
  have HBR := Lib.hid hbr
  clear hbr
  by_cases hlt : m < n
  ·go_upto_region 9 with fail
   have hbD := HBR.out.drew
   have hxD : Ext w1 wr.drew := hxr.drew
   refine wp_region_held_drew (S := fun _ => True) (by kernel_rfl) trivial (fun hHeld => ?_)
   generalize wr.drew = wd at *
   try simp only [Act.put, Jd, Jc, Jb, Ja, Je, Jf]
   (refine Jt 0 (_) rfl (yif_load1 rfl fun _ _ => rfl) hHeld ?_; try simp only [Act.put, Jd, Jc, Jb, Ja, Je, Jf])
   (refine Jt 1 (_) rfl (yif_load1 rfl fun _ _ => rfl) hHeld ?_; try simp only [Act.put, Jd, Jc, Jb, Ja, Je, Jf])
   (refine Jt 2 (_) rfl (yif_load1 rfl fun _ _ => rfl) hHeld ?_; try simp only [Act.put, Jd, Jc, Jb, Ja, Je, Jf])
   (refine Jt 4 (_) rfl (yif_load1 rfl fun _ _ => rfl) hHeld ?_; try simp only [Act.put, Jd, Jc, Jb, Ja, Je, Jf])
   (refine Jt 5 (_) rfl (yif_load1 rfl fun _ _ => rfl) hHeld ?_; try simp only [Act.put, Jd, Jc, Jb, Ja, Je, Jf])
   (refine Jt 3 (.slice (some ⟨g, m, Option.none⟩) (n - m) (n - m)) rfl (yif_load1 rfl (by intro W3 hW; clear hW; go_simp; omega)) hHeld ?_; try simp only [Act.put, Jd, Jc, Jb, Ja, Je, Jf])
   (refine Jt 6 (.slice (some ⟨g, 0, Option.none⟩) m n) rfl (yif_load1 rfl (by intro W3 hW; clear hW; go_simp)) hHeld ?_; try simp only [Act.put, Jd, Jc, Jb, Ja, Je, Jf])
   refine wpAnyH_ready (rs := [7]) (by kernel_rfl) (by simp) ?_
   refine AllReadyH.cons rfl (fun K hK => ?_) AllReadyH.nil
   obtain ⟨c, hc⟩ : ∃ c, c = Nat.min m (n - m) := ⟨_, rfl⟩
   have hc1 : c ≤ m ∧ c ≤ n - m ∧ 0 < c := by
    have := hmp (by omega)
    rw [hc]
    exact ⟨Nat.min_le_left _ _, Nat.min_le_right _ _, by show 0 < min m (n - m); omega⟩
   have HC := Lib.hid hc
   clear hc
   refine step_copy_splice rfl _ _ 29 29 rfl 3 Tryz.underlying29 (by kernel_rfl) _ _ (n - m) (n - m) m n rfl rfl g m (List.replicate m (Value.int .i64 a) ++ List.replicate (n - m) (Value.int .i64 0)) 3 hbD
    (List.replicate c (Value.int .i64 a)) (by rw [List.length_replicate]; exact HC.out) (fun hp => ⟨rfl, ⟨g, 0, none⟩, rfl, fun j v hj => ?_⟩) (by simp; omega) (by intro v hv; rw [List.eq_of_mem_replicate hv]; rfl) w1.heap.size w1 hxD (by rw [HGG.out]; exact Nat.le_refl _) ?_
   ·rw [List.getElem?_replicate] at hj
    split at hj
    ·rename_i hjc
     injection hj with hj
     subst hj
     have hadd : (⟨g, 0, none⟩ : Addr).add j = ⟨g, j, none⟩ := by unfold Addr.add; split <;> simp_all
     rw [hadd, hbD.cell, List.getElem?_toArray, List.getElem?_append_left (by simp; omega), List.getElem?_replicate, if_pos (by omega)]
    ·cases hj
   intro w3 hb3 hx3
   have hb3' := hb3.out
   rw [splice_rep a m c n (by omega)] at hb3'
   have HB4 := Lib.hid hb3'
   rw [List.length_replicate]
   clear hb3 hb3' hbD hxD
   refine hK.out _ _ trivial (fun hHeld => ?_)
   clear hK K
   try simp only [Act.put, Jd, Jc, Jb, Ja, Je, Jf]
   (refine Jt 8 (.int .i64 ((m + c : Nat) : Int)) rfl (yif_load1 rfl (by intro W3 hW; clear hW; go_simp; rw [IntKind.wrap_i64]; omega)) hHeld ?_; try simp only [Act.put, Jd, Jc, Jb, Ja, Je, Jf])
   (refine Jt 9 (.int .i64 ((m + c : Nat) : Int)) rfl (yif_load1 rfl fun _ _ => rfl) hHeld ?_; try simp only [Act.put, Jd, Jc, Jb, Ja, Je, Jf])
   refine wpAnyH_done (by kernel_rfl) ?_ _
   go_roundw
   case rel => exact ⟨_, _, _, _, _, _, _, _, _, _, _, _, _, _, ⟨m + c, by omega, fun _ => by omega, rfl, HB4.out, hx3⟩, rfl⟩
   case measure => simp [intOf]; omega
  ·obtain rfl : m = n := by omega
   go_wp2_with fail
   go_ret
   exact ⟨g, rfl, by rw [HGG.out]; exact Nat.le_refl _, by simpa using HBR.out, hxr⟩

/-! ### who drives each bit -/
def drv1 (p : Int) : List Int → List Int → Option (List Int)
 | [], out => some out
 | b :: l, out => if 0 ≤ out.getD b.toNat 0 then none else drv1 p l (out.set b.toNat p)
def drvs : Nat → List (List Int) → List Int → Option (List Int)
 | _, [], out => some out
 | p, l :: ws, out => match drv1 p l out with
  | none => none
  | some o => drvs (p + 1) ws o
def drvM (n : Nat) (ws : List (List Int)) : Option (List Int) := drvs 0 ws (List.replicate n (-1))

/-! ### on whom each process hangs -/
def hang1 (by' : List Int) (clk : List Bool) : List Int → List Int → List Int
 | [], g => g
 | b :: r, g =>
  let q := by'.getD b.toNat 0
  if (decide (0 ≤ q) && !clk.getD q.toNat false && !g.contains q) = true then hang1 by' clk r (g ++ [q]) else hang1 by' clk r g
def hangM (by' : List Int) (clk : List Bool) (rs : List (List Int)) : List (List Int) := rs.map fun r => hang1 by' clk r []

/-! ### in which order -/
def ready (g : List (List Int)) (clk come : List Bool) (p : Nat) : Bool :=
 !come.getD p false && !clk.getD p false && (g.getD p []).all fun q => come.getD q.toNat false
def nextFrom (g : List (List Int)) (clk come : List Bool) : Nat → Nat → Int
 | 0, _ => -1
 | n + 1, p => if ready g clk come p = true then p else nextFrom g clk come n (p + 1)
def nextM (g : List (List Int)) (clk come : List Bool) : Int := nextFrom g clk come g.length 0
def orderM (g : List (List Int)) (clk : List Bool) : Nat → List Bool → List Int → List Int
 | 0, _, out => out
 | n + 1, come, out =>
  let p := nextM g clk come
  if 0 ≤ p then orderM g clk n (come.set p.toNat true) (out ++ [p]) else out

/-! ### how deep -/
def lev1 (p : Nat) : List Int → List Int → List Int
 | [], out => out
 | q :: l, out => lev1 p l (out.set p (max (out.getD p 0) (out.getD q.toNat 0 + 1)))
def levs (g : List (List Int)) : List Int → List Int → List Int
 | [], out => out
 | p :: o, out => levs g o (lev1 p.toNat (g.getD p.toNat []) out)

/-! ### laws: drivers -/
theorem drv1_length (p : Int) (l : List Int) : ∀ out o, drv1 p l out = some o → o.length = out.length := by
 induction l with
 | nil => intro out o h; simp [drv1] at h; rw [h]
 | cons b l ih =>
  intro out o h
  rw [drv1] at h
  split at h
  ·cases h
  ·rw [ih _ _ h, List.length_set]
theorem drv1_get (p : Int) (hp : 0 ≤ p) (l : List Int) : ∀ out o, (∀ b ∈ l, 0 ≤ b ∧ b < out.length) → drv1 p l out = some o →
  (∀ i : Nat, (i : Int) ∈ l → o[i]? = some p ∧ out.getD i 0 < 0) ∧ ∀ i : Nat, (i : Int) ∉ l → o[i]? = out[i]? := by
 induction l with
 | nil => intro out o _ h; simp [drv1] at h; subst h; simp
 | cons b l ih =>
  intro out o hb h
  rw [drv1] at h
  split at h
  ·cases h
  ·rename_i hlt
   have hb0 := hb b (by simp)
   obtain ⟨h1, h2⟩ := ih (out.set b.toNat p) o (fun x hx => by simpa using hb x (by simp [hx])) h
   constructor
   ·intro i hi
    by_cases hil : (i : Int) ∈ l
    ·refine ⟨(h1 i hil).1, ?_⟩
     have := (h1 i hil).2
     by_cases hbi : b.toNat = i
     ·subst hbi
      rw [List.getD_eq_getElem?_getD, List.getElem?_set_self (by omega)] at this
      simp at this
      omega
     ·rw [List.getD_eq_getElem?_getD, List.getElem?_set_ne hbi] at this
      rw [List.getD_eq_getElem?_getD]; exact this
    ·have hbi : b = i := by
      cases hi with
      | head => rfl
      | tail _ hi => exact absurd hi hil
     subst hbi
     rw [h2 i hil]
     refine ⟨?_, ?_⟩
     ·rw [Int.toNat_natCast, List.getElem?_set_self (by omega)]
     ·rw [Int.toNat_natCast] at hlt; omega
   ·intro i hi
    rw [h2 i (fun h => hi (by simp [h]))]
    refine List.getElem?_set_ne ?_
    intro e
    apply hi
    have : (i : Int) = b := by omega
    rw [this]; simp
theorem drvs_length (ws : List (List Int)) : ∀ p out o, drvs p ws out = some o → o.length = out.length := by
 induction ws with
 | nil => intro p out o h; simp [drvs] at h; rw [h]
 | cons l ws ih =>
  intro p out o h
  rw [drvs] at h
  cases h1 : drv1 p l out with
  | none => rw [h1] at h; cases h
  | some o1 =>
   rw [h1] at h
   rw [ih _ _ _ h, drv1_length _ _ _ _ h1]
/-- each bit is driven by the one process that writes it, or by none -/
theorem drvs_get (ws : List (List Int)) : ∀ p out o, (∀ l ∈ ws, ∀ b ∈ l, 0 ≤ b ∧ b < out.length) → drvs p ws out = some o →
  ∀ i : Nat, (o[i]? = out[i]? ∧ ∀ l ∈ ws, (i : Int) ∉ l) ∨ ∃ k : Nat, ∃ l, ws[k]? = some l ∧ (i : Int) ∈ l ∧ o[i]? = some ((p + k : Nat) : Int) ∧ out.getD i 0 < 0 ∧ ∀ k' l', ws[k']? = some l' → (i : Int) ∈ l' → k' = k := by
 induction ws with
 | nil => intro p out o _ h i; simp [drvs] at h; subst h; simp
 | cons l ws ih =>
  intro p out o hb h i
  rw [drvs] at h
  cases h1 : drv1 p l out with
  | none => rw [h1] at h; cases h
  | some o1 =>
   rw [h1] at h
   simp only at h
   have hl1 := drv1_length _ _ _ _ h1
   obtain ⟨g1, g2⟩ := drv1_get p (by omega) l out o1 (hb l (by simp)) h1
   have := ih (p + 1) o1 o (fun x hx b hbx => by rw [hl1]; exact hb x (by simp [hx]) b hbx) h i
   rcases this with ⟨e1, e2⟩ | ⟨k, l', e1, e2, e3, e4, e5⟩
   ·by_cases hil : (i : Int) ∈ l
    ·refine .inr ⟨0, l, rfl, hil, ?_, (g1 i hil).2, ?_⟩
     ·rw [e1, (g1 i hil).1]; simp
     ·intro k' l'' hk hm
      cases k' with
      | zero => rfl
      | succ k' => exact absurd hm (e2 l'' (List.mem_of_getElem? (by simpa using hk)))
    ·refine .inl ⟨by rw [e1, g2 i hil], ?_⟩
     intro x hx
     cases hx with
     | head => exact hil
     | tail _ hx => exact e2 x hx
   ·have hil : (i : Int) ∉ l := by
     intro hil
     have := (g1 i hil).1
     rw [List.getD_eq_getElem?_getD, this] at e4
     simp at e4
     omega
    refine .inr ⟨k + 1, l', by simpa using e1, e2, ?_, ?_, ?_⟩
    ·rw [e3]; congr 2; omega
    ·rw [List.getD_eq_getElem?_getD, g2 i hil, ← List.getD_eq_getElem?_getD] at e4; exact e4
    ·intro k' l'' hk hm
     cases k' with
     | zero => simp at hk; subst hk; exact absurd hm hil
     | succ k' => rw [e5 k' l'' (by simpa using hk) hm]
theorem drvM_length {n : Nat} {ws : List (List Int)} {o : List Int} (h : drvM n ws = some o) : o.length = n := by
 rw [drvs_length _ _ _ _ h, List.length_replicate]
/-- of each bit: none drives it, or just one process does -/
theorem drvM_get {n : Nat} {ws : List (List Int)} {o : List Int} (hb : ∀ l ∈ ws, ∀ b ∈ l, 0 ≤ b ∧ b < n) (h : drvM n ws = some o) (i : Nat) (hi : i < n) :
  (o[i]? = some (-1) ∧ ∀ l ∈ ws, (i : Int) ∉ l) ∨ ∃ k : Nat, ∃ l, ws[k]? = some l ∧ (i : Int) ∈ l ∧ o[i]? = some (k : Int) ∧ ∀ k' l', ws[k']? = some l' → (i : Int) ∈ l' → k' = k := by
 rcases drvs_get ws 0 _ o (by simpa using hb) h i with ⟨h1, h2⟩ | ⟨k, l, h1, h2, h3, h4, h5⟩
 ·exact .inl ⟨by rw [h1, List.getElem?_replicate, if_pos hi], h2⟩
 ·exact .inr ⟨k, l, h1, h2, by simpa using h3, h5⟩
theorem drvM_range {n : Nat} {ws : List (List Int)} {o : List Int} (hb : ∀ l ∈ ws, ∀ b ∈ l, 0 ≤ b ∧ b < n) (h : drvM n ws = some o) : ∀ x ∈ o, -1 ≤ x ∧ x < ws.length := by
 intro x hx
 obtain ⟨i, hi, rfl⟩ := List.getElem_of_mem hx
 have hn := drvM_length h
 rcases drvM_get hb h i (by omega) with ⟨h1, -⟩ | ⟨k, l, h1, h2, h3, -⟩
 ·rw [List.getElem?_eq_getElem hi] at h1
  injection h1 with h1
  omega
 ·rw [List.getElem?_eq_getElem hi] at h3
  injection h3 with h3
  have := (List.getElem?_eq_some_iff.1 h1).1
  omega

/-! ### laws: whom a process hangs on -/
theorem mem_hang1 (by' : List Int) (clk : List Bool) (r : List Int) (q : Int) : ∀ g, q ∈ hang1 by' clk r g ↔ q ∈ g ∨ (0 ≤ q ∧ clk.getD q.toNat false = false ∧ ∃ b ∈ r, by'.getD b.toNat 0 = q) := by
 induction r with
 | nil => intro g; simp [hang1]
 | cons b r ih =>
  intro g
  rw [hang1]
  try simp only
  split
  ·rename_i h
   simp only [Bool.and_eq_true, decide_eq_true_eq, Bool.not_eq_true', List.contains_eq_mem, decide_eq_false_iff_not] at h
   rw [ih]
   constructor
   ·rintro (h1 | ⟨h1, h2, c, hc, h3⟩)
    ·rcases List.mem_append.1 h1 with h1 | h1
     ·exact .inl h1
     ·simp at h1
      subst h1
      exact .inr ⟨h.1.1, h.1.2, b, by simp, rfl⟩
    ·exact .inr ⟨h1, h2, c, by simp [hc], h3⟩
   ·rintro (h1 | ⟨h1, h2, c, hc, h3⟩)
    ·exact .inl (by simp [h1])
    ·cases hc with
     | head => exact .inl (List.mem_append.2 (.inr (by rw [h3]; exact List.mem_singleton.2 rfl)))
     | tail _ hc => exact .inr ⟨h1, h2, c, hc, h3⟩
  ·rename_i h
   simp only [Bool.and_eq_true, decide_eq_true_eq, Bool.not_eq_true', List.contains_eq_mem, decide_eq_false_iff_not] at h
   rw [ih]
   constructor
   ·rintro (h1 | ⟨h1, h2, c, hc, h3⟩)
    ·exact .inl h1
    ·exact .inr ⟨h1, h2, c, by simp [hc], h3⟩
   ·rintro (h1 | ⟨h1, h2, c, hc, h3⟩)
    ·exact .inl h1
    ·cases hc with
     | head =>
      by_cases hg : q ∈ g
      ·exact .inl hg
      ·exfalso; apply h; rw [h3]; exact ⟨⟨h1, h2⟩, hg⟩
     | tail _ hc => exact .inr ⟨h1, h2, c, hc, h3⟩
theorem mem_hang (by' : List Int) (clk : List Bool) (r : List Int) (q : Int) : q ∈ hang1 by' clk r [] ↔ 0 ≤ q ∧ clk.getD q.toNat false = false ∧ ∃ b ∈ r, by'.getD b.toNat 0 = q := by
 rw [mem_hang1]; simp

/-! ### laws: the order -/
theorem nextFrom_spec (g : List (List Int)) (clk come : List Bool) (n : Nat) : ∀ p, (nextFrom g clk come n p = -1 ∧ ∀ k, p ≤ k → k < p + n → ready g clk come k = false) ∨
  ∃ k : Nat, nextFrom g clk come n p = k ∧ p ≤ k ∧ k < p + n ∧ ready g clk come k = true ∧ ∀ j, p ≤ j → j < k → ready g clk come j = false := by
 induction n with
 | zero => intro p; exact .inl ⟨rfl, fun k h1 h2 => by omega⟩
 | succ n ih =>
  intro p
  rw [nextFrom]
  by_cases h : ready g clk come p = true
  ·rw [if_pos h]
   exact .inr ⟨p, rfl, Nat.le_refl _, by omega, h, fun j h1 h2 => by omega⟩
  ·rw [if_neg h]
   have h' : ready g clk come p = false := by simpa using h
   rcases ih (p + 1) with ⟨h1, h2⟩ | ⟨k, h1, h2, h3, h4, h5⟩
   ·refine .inl ⟨h1, fun k hk1 hk2 => ?_⟩
    by_cases e : k = p
    ·rw [e]; exact h'
    ·exact h2 k (by omega) (by omega)
   ·refine .inr ⟨k, h1, by omega, by omega, h4, fun j hj1 hj2 => ?_⟩
    by_cases e : j = p
    ·rw [e]; exact h'
    ·exact h5 j (by omega) hj2
theorem nextM_spec (g : List (List Int)) (clk come : List Bool) : (nextM g clk come = -1 ∧ ∀ k, k < g.length → ready g clk come k = false) ∨
  ∃ k : Nat, nextM g clk come = k ∧ k < g.length ∧ ready g clk come k = true := by
 rcases nextFrom_spec g clk come g.length 0 with ⟨h1, h2⟩ | ⟨k, h1, -, h3, h4, -⟩
 ·exact .inl ⟨h1, fun k hk => h2 k (by omega) (by omega)⟩
 ·exact .inr ⟨k, h1, by omega, h4⟩
theorem ready_iff (g : List (List Int)) (clk come : List Bool) (p : Nat) : ready g clk come p = true ↔ come.getD p false = false ∧ clk.getD p false = false ∧ ∀ q ∈ g.getD p [], come.getD q.toNat false = true := by
 simp [ready, and_assoc]

/-- what an order so far is -/
structure Ord (g : List (List Int)) (clk come : List Bool) (out : List Int) : Prop where
 len : come.length = g.length
 came : ∀ p : Nat, come.getD p false = true ↔ (p : Int) ∈ out
 inr : ∀ p ∈ out, 0 ≤ p ∧ p < g.length ∧ clk.getD p.toNat false = false
 nodup : out.Nodup
 behind : ∀ (i : Nat) (p : Int), out[i]? = some p → ∀ q ∈ g.getD p.toNat [], ((q.toNat : Nat) : Int) ∈ out.take i

theorem Ord.nil (g : List (List Int)) (clk : List Bool) : Ord g clk (List.replicate g.length false) [] where
 len := by simp
 came := by
  intro p
  simp [List.getD_eq_getElem?_getD, List.getElem?_replicate]
  split <;> simp
 inr := by intro p h; cases h
 nodup := List.nodup_nil
 behind := by intro i p h; simp at h
theorem Ord.snoc {g : List (List Int)} {clk come : List Bool} {out : List Int} (h : Ord g clk come out) {k : Nat} (hk : k < g.length) (hr : ready g clk come k = true) :
  Ord g clk (come.set k true) (out ++ [(k : Int)]) := by
 obtain ⟨r1, r2, r3⟩ := (ready_iff _ _ _ _).1 hr
 have hkc : k < come.length := by rw [h.len]; exact hk
 have hnot : (k : Int) ∉ out := fun hm => by rw [(h.came k).2 hm] at r1; cases r1
 refine ⟨by rw [List.length_set, h.len], ?_, ?_, ?_, ?_⟩
 ·intro p
  by_cases e : k = p
  ·subst e
   simp [List.getD_eq_getElem?_getD, List.getElem?_set_self hkc]
  ·rw [List.getD_eq_getElem?_getD, List.getElem?_set_ne e, ← List.getD_eq_getElem?_getD, h.came]
   simp
   omega
 ·intro p hp
  rcases List.mem_append.1 hp with hp | hp
  ·exact h.inr p hp
  ·simp at hp; subst hp
   exact ⟨by omega, by omega, by simpa using r2⟩
 ·rw [List.nodup_append]
  refine ⟨h.nodup, by simp, ?_⟩
  intro a ha b hb
  simp at hb
  subst hb
  intro e; subst e; exact hnot ha
 ·intro i p hp q hq
  by_cases hi : i < out.length
  ·rw [List.getElem?_append_left hi] at hp
   have := h.behind i p hp q hq
   rw [List.take_append_of_le_length (by omega)]
   exact this
  ·rw [List.getElem?_append_right (by omega)] at hp
   have hi2 : i - out.length = 0 := by
    have := (List.getElem?_eq_some_iff.1 hp).1
    simp at this; omega
   rw [hi2] at hp
   simp at hp
   subst hp
   rw [Int.toNat_natCast] at hq
   have := r3 q hq
   have hm := (h.came _).1 this
   rw [show i = out.length by omega, List.take_left']
   ·exact hm
   ·rfl

def falses (l : List Bool) : Nat := l.countP fun b => !b
theorem falses_set (l : List Bool) : ∀ (k : Nat), l.getD k true = false → falses (l.set k true) + 1 = falses l := by
 induction l with
 | nil => intro k h; simp at h
 | cons b l ih =>
  intro k h
  cases k with
  | zero => simp at h; subst h; simp [falses]
  | succ k =>
   simp at h
   have := ih k (by simpa using h)
   simp only [falses, Jf, List.countP_cons] at this ⊢
   omega
theorem falses_pos (l : List Bool) (k : Nat) (hk : k < l.length) (h : l.getD k false = false) : falses (l.set k true) + 1 = falses l := by
 refine falses_set l k ?_
 rw [List.getD_eq_getElem?_getD, List.getElem?_eq_getElem hk] at h ⊢
 exact h

/-- the order's end: none is ready -/
theorem orderM_spec (g : List (List Int)) (clk : List Bool) (n : Nat) : ∀ come out, Ord g clk come out → falses come < n →
  ∃ come', Ord g clk come' (orderM g clk n come out) ∧ ∀ k, k < g.length → ready g clk come' k = false := by
 induction n with
 | zero => intro come out _ h; omega
 | succ n ih =>
  intro come out ho hf
  rw [orderM]
  try simp only
  rcases nextM_spec g clk come with ⟨h1, h2⟩ | ⟨k, h1, h2, h3⟩
  ·rw [h1, if_neg (by decide)]
   exact ⟨come, ho, h2⟩
  ·rw [h1, if_pos (by omega), Int.toNat_natCast]
   have hc := falses_pos come k (by rw [ho.len]; exact h2) ((ready_iff _ _ _ _).1 h3).1
   exact ih _ _ (ho.snoc h2 h3) (by omega)

/-! ### laws: how deep -/
theorem lev1_length (p : Nat) (l : List Int) : ∀ out, (lev1 p l out).length = out.length := by
 induction l with
 | nil => intro out; rfl
 | cons q l ih => intro out; rw [lev1, ih, List.length_set]
theorem lev1_other (p : Nat) (l : List Int) : ∀ out (i : Nat), i ≠ p → (lev1 p l out).getD i 0 = out.getD i 0 := by
 induction l with
 | nil => intro out i _; rfl
 | cons q l ih =>
  intro out i hi
  rw [lev1, ih _ _ hi, List.getD_eq_getElem?_getD, List.getElem?_set_ne (fun e => hi e.symm), ← List.getD_eq_getElem?_getD]
theorem lev1_ge (p : Nat) (l : List Int) : ∀ out, p < out.length → out.getD p 0 ≤ (lev1 p l out).getD p 0 := by
 induction l with
 | nil => intro out _; exact Int.le_refl _
 | cons q l ih =>
  intro out hp
  rw [lev1]
  refine Int.le_trans ?_ (ih _ (by simpa using hp))
  rw [List.getD_eq_getElem?_getD (l := out.set _ _), List.getElem?_set_self hp]
  exact Int.le_max_left _ _
theorem lev1_gt (p : Nat) (l : List Int) : ∀ out, p < out.length → (∀ q ∈ l, q.toNat ≠ p) → ∀ q ∈ l, out.getD q.toNat 0 < (lev1 p l out).getD p 0 := by
 induction l with
 | nil => intro out _ _ q h; cases h
 | cons x l ih =>
  intro out hp hne q hq
  rw [lev1]
  have hp' : p < (out.set p (max (out.getD p 0) (out.getD x.toNat 0 + 1))).length := by simpa using hp
  rcases List.mem_cons.1 hq with e | hq
  ·rw [e]
   refine Int.lt_of_lt_of_le ?_ (lev1_ge p l _ hp')
   rw [List.getD_eq_getElem?_getD (l := out.set _ _), List.getElem?_set_self hp]
   have := Int.le_max_right (out.getD p 0) (out.getD x.toNat 0 + 1)
   simp only [Option.getD_some]
   omega
  ·have := ih _ hp' (fun y hy => hne y (by simp [hy])) q hq
   rw [List.getD_eq_getElem?_getD, List.getElem?_set_ne (fun e => hne q (by simp [hq]) e.symm), ← List.getD_eq_getElem?_getD] at this
   exact this
theorem lev1_bound (p : Nat) (B : Int) (l : List Int) : ∀ out, (∀ x ∈ out, 0 ≤ x ∧ x ≤ B) → 0 ≤ B → ∀ x ∈ lev1 p l out, 0 ≤ x ∧ x ≤ B + l.length := by
 induction l generalizing B with
 | nil => intro out h _ x hx; simpa using h x hx
 | cons q l ih =>
  intro out h hB x hx
  rw [lev1] at hx
  have hg : ∀ i : Nat, 0 ≤ out.getD i 0 ∧ out.getD i 0 ≤ B := by
   intro i
   rw [List.getD_eq_getElem?_getD]
   cases hi : out[i]? with
   | none => simp; exact hB
   | some y => simpa using h y (List.mem_of_getElem? hi)
  have := ih (B + 1) _ (fun y hy => by
   rcases List.mem_or_eq_of_mem_set hy with hy | hy
   ·have := h y hy; omega
   ·have h1 := hg p; have h2 := hg q.toNat
    rw [hy]; omega) (by omega) x hx
  simp only [List.length_cons]
  omega
theorem levs_length (g : List (List Int)) (o : List Int) : ∀ out, (levs g o out).length = out.length := by
 induction o with
 | nil => intro out; rfl
 | cons p o ih => intro out; rw [levs, ih, lev1_length]
theorem levs_other (g : List (List Int)) (o : List Int) : ∀ out (i : Nat), (∀ p ∈ o, p.toNat ≠ i) → (levs g o out).getD i 0 = out.getD i 0 := by
 induction o with
 | nil => intro out i _; rfl
 | cons p o ih =>
  intro out i h
  rw [levs, ih _ _ (fun q hq => h q (by simp [hq])), lev1_other _ _ _ _ (fun e => h p (by simp) e.symm)]
/-- what stands behind is deeper -/
theorem levs_gt (g : List (List Int)) (o : List Int) : ∀ out, (∀ p ∈ o, 0 ≤ p ∧ p.toNat < out.length) → o.Nodup → (∀ (i : Nat) (p : Int), o[i]? = some p → ∀ q ∈ g.getD p.toNat [], ∀ p' ∈ o.drop i, q.toNat ≠ p'.toNat) →
  ∀ p ∈ o, ∀ q ∈ g.getD p.toNat [], (levs g o out).getD q.toNat 0 < (levs g o out).getD p.toNat 0 := by
 induction o with
 | nil => intro out _ _ _ p h; cases h
 | cons x o ih =>
  intro out hin hnd hb p hp q hq
  rw [levs]
  have hx := hin x (by simp)
  have hnd' := List.nodup_cons.1 hnd
  have hxo : ∀ y ∈ o, y.toNat ≠ x.toNat := by
   intro y hy e
   have h1 := hin y (by simp [hy])
   have : y = x := by omega
   subst this
   exact hnd'.1 hy
  rcases List.mem_cons.1 hp with e | hp
  ·subst e
   have hq' := hb 0 p rfl q hq
   rw [levs_other g o _ p.toNat hxo, levs_other g o _ q.toNat (fun y hy e => hq' y (by simp [hy]) e.symm)]
   rw [lev1_other _ _ _ _ (hq' p (by simp))]
   exact lev1_gt _ _ _ hx.2 (fun y hy => hb 0 p rfl y hy p (by simp)) q hq
  ·refine ih _ (fun y hy => ?_) hnd'.2 (fun i y hy z hz y' hy' => ?_) p hp q hq
   ·rw [lev1_length]; exact hin y (by simp [hy])
   ·exact hb (i + 1) y (by simpa using hy) z hz y' (by simpa using hy')

/-! ### laws: the order has all processes of wires just if there is a rank -/
theorem ord_all {g : List (List Int)} {clk come : List Bool} {out : List Int} (ho : Ord g clk come out) (hn : ∀ k, k < g.length → ready g clk come k = false) (r : Nat → Nat)
  (hr : ∀ p, p < g.length → clk.getD p false = false → ∀ q ∈ g.getD p [], 0 ≤ q ∧ q.toNat < g.length ∧ clk.getD q.toNat false = false ∧ r q.toNat < r p) :
  ∀ p : Nat, p < g.length → clk.getD p false = false → (p : Int) ∈ out := by
 have key : ∀ m p, r p ≤ m → p < g.length → clk.getD p false = false → come.getD p false = true := by
  intro m
  induction m with
  | zero =>
   intro p hm hp hc
   refine Decidable.byContradiction fun hcome => ?_
   have := hn p hp
   rw [Bool.eq_false_iff] at this
   refine this ((ready_iff _ _ _ _).2 ⟨by simpa using hcome, hc, fun q hq => ?_⟩)
   have := (hr p hp hc q hq).2.2.2
   omega
  | succ m ih =>
   intro p hm hp hc
   refine Decidable.byContradiction fun hcome => ?_
   have := hn p hp
   rw [Bool.eq_false_iff] at this
   refine this ((ready_iff _ _ _ _).2 ⟨by simpa using hcome, hc, fun q hq => ?_⟩)
   obtain ⟨h1, h2, h3, h4⟩ := hr p hp hc q hq
   exact ih q.toNat (by omega) h2 h3
 intro p hp hc
 exact (ho.came p).1 (key _ p (Nat.le_refl _) hp hc)
theorem ord_rank {g : List (List Int)} {clk come : List Bool} {out : List Int} (ho : Ord g clk come out) (hall : ∀ p : Nat, p < g.length → clk.getD p false = false → (p : Int) ∈ out) :
  ∀ p : Nat, p < g.length → clk.getD p false = false → ∀ q ∈ g.getD p [], out.idxOf ((q.toNat : Nat) : Int) < out.idxOf (p : Int) := by
 intro p hp hc q hq
 have hm := hall p hp hc
 have hi := List.idxOf_lt_length_of_mem hm
 have hget : out[out.idxOf (p : Int)]? = some (p : Int) := by
  rw [List.getElem?_eq_getElem hi, List.getElem_idxOf hi]
 have := ho.behind _ _ hget q (by simpa using hq)
 obtain ⟨j, hj, hje⟩ := List.getElem_of_mem this
 simp only [List.length_take] at hj
 rw [List.getElem_take] at hje
 have hnd := ho.nodup
 have h2 : out.idxOf ((q.toNat : Nat) : Int) = j := by
  have hj' : j < out.length := by omega
  have e1 := List.idxOf_lt_length_of_mem (l := out) (a := ((q.toNat : Nat) : Int)) (by rw [← hje]; exact List.getElem_mem hj')
  have e2 := List.getElem_idxOf e1
  have e3 := e2.trans hje.symm
  refine Decidable.byContradiction fun hne => ?_
  have hpw := List.pairwise_iff_getElem.1 hnd
  by_cases hlt : out.idxOf ((q.toNat : Nat) : Int) < j
  ·exact hpw _ _ e1 hj' hlt e3
  ·exact hpw _ _ hj' e1 (by omega) e3.symm
 omega
def wiresM (clk : List Bool) : Nat := clk.countP fun b => !b
theorem wires_list (clk : List Bool) : ((List.range clk.length).filter fun p => !clk.getD p false).length = wiresM clk := by
 unfold wiresM
 rw [← List.countP_eq_length_filter]
 induction clk with
 | nil => rfl
 | cons b l ih =>
  rw [List.length_cons, List.range_succ_eq_map, List.countP_cons, List.countP_cons, List.countP_map]
  have : List.countP ((fun p => !(b :: l).getD p false) ∘ Nat.succ) (List.range l.length) = List.countP (fun p => !l.getD p false) (List.range l.length) := by
   refine List.countP_congr fun x _ => ?_
   simp
  rw [this, ih]
  simp

open Go.RowKit

/-! ### plain: the bits that processes write and read are the design's -/
def SpanD (ls : List Signal) (s : Span) : Prop := 0 ≤ s.sig ∧ s.sig < ls.length ∧ 0 ≤ s.lo ∧ s.hi < sigW ls s.sig
theorem slice_span {ls : List Signal} {sig hi lo : Int} (h : slice ls sig hi lo = true) : SpanD ls ⟨sig, hi, lo⟩ := by
 unfold slice at h
 simp only [Bool.and_eq_true, decide_eq_true_eq] at h
 unfold SpanD
 simp only
 omega
theorem span_bits (ls : List Signal) {s : Span} (h : SpanD ls s) {j : Int} (h1 : s.lo ≤ j) (h2 : j ≤ s.hi) :
  s.sig.toNat < ls.length ∧ sumW ls s.sig.toNat ≤ (offsM ls ls.length).getD s.sig.toNat 0 + j ∧ (offsM ls ls.length).getD s.sig.toNat 0 + j < sumW ls (s.sig.toNat + 1) := by
 obtain ⟨a, b, c, e⟩ := h
 have hlt : s.sig.toNat < ls.length := by omega
 rw [offsM_getD _ _ _ (by omega), sumW_succ ls _ hlt]
 unfold sigW at e
 rw [List.getElem?_eq_getElem hlt] at e
 simp only at e
 omega
theorem ProcD.spansW {d : Flat} {l : List T} (h : ProcD d l) : ∀ s ∈ spansW l, SpanD d.signals s := by
 intro s hs
 unfold Go.Proofs.YthpemngachlehaaGreat.spansW wS at hs
 obtain ⟨t, ht, rfl⟩ := List.mem_map.1 hs
 obtain ⟨ht, ho⟩ := List.mem_filter.1 ht
 exact slice_span (((StD_iff _ _).1 (h.each t (List.mem_of_mem_take ht))).1 (by simpa using ho))
theorem partsE_span (ls : List Signal) (e : E) : shape ls e = true → ∀ s ∈ partsE ls e, SpanD ls s := by
 induction e using E.ind with
 | h e ih =>
  intro he s hs
  rw [shape_eq, Bool.and_eq_true, List.all_eq_true] at he
  rw [partsE_eq, List.mem_append] at hs
  rcases hs with hs | hs
  ·unfold spans0 at hs
   split at hs
   ·rename_i h2
    have h0 := he.1
    rw [h2] at h0
    simp [shape0] at h0
    rw [List.mem_singleton.1 hs]
    exact slice_span h0.1.2
   ·split at hs
    ·rename_i h3
     have h0 := he.1
     rw [h3] at h0
     simp [shape0] at h0
     rw [List.mem_singleton.1 hs]
     unfold SpanD
     simp only
     omega
    ·cases hs
  ·obtain ⟨m, hm, hs⟩ := List.mem_flatten.1 hs
   obtain ⟨y, hy, rfl⟩ := List.mem_map.1 hm
   exact ih y hy (he.2 y hy) s hs
theorem ProcD.spansR {d : Flat} {l : List T} (h : ProcD d l) : ∀ s ∈ spansR d.signals l, SpanD d.signals s := by
 intro s hs
 unfold Go.Proofs.YthpemngachlehaaGreat.spansR rS at hs
 obtain ⟨m, hm, hs⟩ := List.mem_flatten.1 hs
 obtain ⟨t, ht, rfl⟩ := List.mem_map.1 hm
 obtain ⟨m, hm, hs⟩ := List.mem_flatten.1 hs
 obtain ⟨e, he, rfl⟩ := List.mem_map.1 hm
 exact partsE_span _ e (((StD_iff _ _).1 (h.each t (List.mem_of_mem_take ht))).2.2.1 e he) s hs
/-- how many bits a design has -/
def nBits (d : Flat) : Int := sumW d.signals d.signals.length
theorem numbersM_range {d : Flat} {l : List T} (h : ProcD d l) (xs : List Span) (hx : ∀ s ∈ xs, SpanD d.signals s) : ∀ b ∈ numbersM (offsD d) xs, 0 ≤ b ∧ b < nBits d := by
 intro b hb
 obtain ⟨s, hs, j, h1, h2, rfl⟩ := (mem_numbersM _ _ _).1 hb
 obtain ⟨q1, q2, q3⟩ := span_bits d.signals (hx s hs) h1 h2
 have := (sumW_le d.signals h.ow s.sig.toNat (by omega)).1
 have := sumW_mono d.signals h.ow (s.sig.toNat + 1) d.signals.length (by omega) (Nat.le_refl _)
 unfold nBits offsD
 omega
theorem writesM_range {d : Flat} (hok : d.ok) (hc : checkM d = 0) {p : Int} (hp : p.toNat < d.procs.length) : ∀ b ∈ writesM d p, 0 ≤ b ∧ b < nBits d := by
 have hD := procD_of hok hc p.toNat hp
 unfold writesM
 rw [procL_get hp]
 exact numbersM_range hD _ hD.spansW
theorem readsM_range {d : Flat} (hok : d.ok) (hc : checkM d = 0) {p : Int} (hp : p.toNat < d.procs.length) : ∀ b ∈ readsM d p, 0 ≤ b ∧ b < nBits d := by
 have hD := procD_of hok hc p.toNat hp
 unfold readsM
 rw [procL_get hp]
 exact numbersM_range hD _ hD.spansR
theorem nBits_le {d : Flat} (hok : d.ok) (hc : checkM d = 0) : 0 ≤ nBits d ∧ nBits d ≤ 67108864 := by
 have := sumW_le d.signals (checkM_w hc) d.signals.length (Nat.le_refl _)
 have := hok.signals
 unfold nBits
 omega
/-- numbers that rise within a range are few -/
theorem lt_length (l : List Int) (n : Int) (hl : l.Pairwise (· < ·)) (h : ∀ b ∈ l, 0 ≤ b ∧ b < n) : l.length ≤ n.toNat := by
 have h1 : (l.map Int.toNat).Nodup := by
  rw [List.nodup_iff_pairwise_ne, List.pairwise_map]
  refine hl.imp_of_mem fun {a b} ha hb hab => ?_
  have := h a ha; have := h b hb
  omega
 have := nodup_le (l.map Int.toNat) (List.range n.toNat) h1 fun x hx => by
  obtain ⟨b, hb, rfl⟩ := List.mem_map.1 hx
  have := h b hb
  rw [List.mem_range]; omega
 simpa using this

def wsM (d : Flat) : List (List Int) := (List.range d.procs.length).map fun (p : Nat) => writesM d (p : Int)
theorem wsM_length (d : Flat) : (wsM d).length = d.procs.length := by simp [wsM]
theorem wsM_drop (d : Flat) (k : Nat) (hk : k < d.procs.length) : (wsM d).drop k = writesM d (k : Int) :: (wsM d).drop (k + 1) := by
 rw [List.drop_eq_getElem_cons (by rw [wsM_length]; exact hk)]
 simp [wsM]
/-- who drives each bit: the error, and the drivers -/
def drvD (d : Flat) : Int × List Int := if checkM d = 0 then (match drvM (nBits d).toNat (wsM d) with | none => (120, []) | some o => (0, o)) else (1, [])
def drvEnd : Option (List Int) → Int × List Int
 | none => (120, [])
 | some o => (0, o)
theorem drvD_eq {d : Flat} (h : checkM d = 0) : drvD d = drvEnd (drvM (nBits d).toNat (wsM d)) := by
 unfold drvD drvEnd; rw [if_pos h]

theorem IntRow.ofBlk {N g : Nat} {l : List Int} {w : World} (h : Blk w g (l.map (Value.int .i64)).toArray 3) (hN : N ≤ g) (hm : l.length ≤ 9223372036854775807) : IntRow N (.slice (some ⟨g, 0, none⟩) l.length l.length) l w :=
 ⟨by simp, .inr ⟨g, l.length, _, rfl, hN, h, Nat.le_refl _, by simpa [maxLen] using hm, by simp, by rw [Nat.mul_one]; exact List.take_of_length_le (by simp)⟩⟩
theorem blk_setI {w : World} {g : Nat} {l : List Int} (h : Blk w g (l.map (Value.int .i64)).toArray 3) (j : Nat) (x : Int) : Blk (w.setCell ⟨g, j, none⟩ (.int .i64 x)) g ((l.set j x).map (Value.int .i64)).toArray 3 := by
 have := h.set j (.int .i64 x)
 rw [Ja] at this
 rw [List.map_set]
 exact this

theorem Bits_ok (d : Flat) (v : Value) (w : World) (h : FlatV w v d) (hok : d.ok) (hc : checkM d = 0) :
  Calls Tryz.prog 21 #[v] w fun r w' => ∃ u, r = .returned (.tuple #[u, .int .i64 0]) ∧ IntRow w.heap.size u (offsM d.signals d.signals.length) w' ∧ Ext w w' := by
 have := Bits_calls d v w h hok
 rw [if_pos hc, if_pos hc] at this
 exact this
theorem toldOk_of {d : Flat} (hc : checkM d = 0) {k : Nat} (hk : k < d.procs.length) : toldOk d (k : Int) = true := by
 unfold toldOk; simp [hc]; omega
theorem Writes_ok (d : Flat) (v : Value) (w : World) (h : FlatV w v d) (hok : d.ok) (hc : checkM d = 0) {k : Nat} (hk : k < d.procs.length) :
  Calls Tryz.prog 24 #[v, .int .i64 k] w fun r w' => ∃ u, r = .returned (.tuple #[u, .int .i64 0]) ∧ IntRow w.heap.size u (writesM d k) w' ∧ Ext w w' := by
 have := Writes_calls d v w h hok (k : Int) (by have := hok.procs; omega)
 rw [if_pos (toldOk_of hc hk), if_pos (toldOk_of hc hk)] at this
 exact this
theorem Reads_ok (d : Flat) (v : Value) (w : World) (h : FlatV w v d) (hok : d.ok) (hc : checkM d = 0) {k : Nat} (hk : k < d.procs.length) :
  Calls Tryz.prog 20 #[v, .int .i64 k] w fun r w' => ∃ u, r = .returned (.tuple #[u, .int .i64 0]) ∧ IntRow w.heap.size u (readsM d k) w' ∧ Ext w w' := by
 have := Reads_calls d v w h hok (k : Int) (by have := hok.procs; omega)
 rw [if_pos (toldOk_of hc hk), if_pos (toldOk_of hc hk)] at this
 exact this
theorem Always_ok (d : Flat) (v : Value) (w : World) (h : FlatV w v d) (hok : d.ok) (hc : checkM d = 0) {k : Nat} (hk : k < d.procs.length) :
  Calls Tryz.prog 43 #[v, .int .i64 k] w fun r w' => ∃ u, r = .returned (.tuple #[u, .int .i64 0]) ∧ IntRow w.heap.size u (alwaysM d k) w' ∧ Ext w w' := by
 have := Always_calls d v w h hok (k : Int) (by have := hok.procs; omega)
 rw [if_pos (toldOk_of hc hk), if_pos (toldOk_of hc hk)] at this
 exact this

set_option maxRecDepth 100000 in
set_option maxHeartbeats 4000000 in
theorem Drivers_calls (d : Flat) (v : Value) (w : World) (h : FlatV w v d) (hok : d.ok) :
  Calls Tryz.prog 11 #[v] w fun r w' => ∃ u, r = .returned (.tuple #[u, .int .i64 (drvD d).1]) ∧ IntRow w.heap.size u (drvD d).2 w' ∧ Ext w w' := by
 have HF := Lib.hid h
 obtain ⟨sv, pv, cv, rfl, hS, hP, hC⟩ := h
 have HX := Lib.hid (ext_alloc w (.cells [sv, pv, cv].toArray 26))
 have HB := Lib.hid (Blk.new w [sv, pv, cv].toArray 26)
 have HCK := Lib.hid (Check_calls d _ _ (HF.out.ext HX.out) hok)
 have hln := hok.procs
 have hlns := hok.signals
 obtain ⟨a0, b0, o0, c0, rfl, hc1, hc2, ha, hr⟩ := hP.open
 clear hS hP hC ha hr
 obtain ⟨ep, hep⟩ : ∃ ep, drvD d = ep := ⟨_, rfl⟩
 rw [hep]
 have HEP := Lib.hid hep
 clear hep
 go_enter Tryz.func11, Tryz.ntmps11
 go_upto_region 1 with fail
 have hs1 : (w.alloc (.cells [sv, .slice a0 d.procs.length c0, cv].toArray 26)).heap.size = w.heap.size + 1 := by simp
 generalize w.alloc _ = w1 at *
 by_cases hck : checkM d = 0
 ·have hnb := nBits_le hok hck
  have hep := HEP.out
  rw [drvD_eq hck] at hep
  obtain ⟨nb, hnbe⟩ : ∃ nb : Nat, nBits d = nb := ⟨(nBits d).toNat, by omega⟩
  rw [hnbe, Int.toNat_natCast] at hep
  rw [hnbe] at hnb
  have HNB := Lib.hid hnbe
  have HEN := Lib.hid hep
  have HC0 := Lib.hid hck
  have HBT := Lib.hid (fun W (hx : Ext w1 W) => Bits_ok d _ W ((HF.out.ext HX.out).ext hx) hok hck)
  rw [hck] at HCK
  clear hck hnbe hep
  go_upto_region 4 with (first | ((with_reducible show wpList _ _ _ (⟨_, Op.load 26 _, _, _, _, _⟩ :: _) _ _); refine wpList_load_has rfl 26 _ rfl rfl (HB.out.has) agg_Flat rfl ?_) | (go_at_call 28; refine HCK.out.mono ?_; rintro r w2 ⟨rfl, hx2⟩; have HB2 := Lib.hid (HB.out.ext hx2)) | ((with_reducible show wpList _ _ _ (⟨_, Op.load 26 _, _, _, _, _⟩ :: _) _ _); refine wpList_load_has rfl 26 _ rfl rfl (HB2.out.has) agg_Flat rfl ?_) | (go_at_call 21; refine (HBT.out _ hx2).mono ?_; rintro r w3 ⟨u, rfl, hr3, hx3⟩))
  obtain ⟨gb, cb, hu, hgb, hgc⟩ := hr3.open1 (by rw [offsM_length]; omega)
  rw [offsM_length] at hu
  subst hu
  have y0 := hgc d.signals.length (nBits d) (offsM_last _ _)
  rw [HNB.out] at y0
  have hx4 := ext_alloc w3 (.cells [Value.int .i64 (-1)].toArray 3)
  have hb4 := Blk.new w3 [Value.int .i64 (-1)].toArray 3
  have y4 := Has.one1 y0 hx4
  have hX4 := (hx2.trans hx3).trans hx4
  have hs4 := hX4.size
  clear hgc hgb hr3 y0
  go_upto_region 5 with (first | ((with_reducible show wpList _ _ _ (⟨_, Op.buildSlice _ _ _, _, _, _, _⟩ :: _) _ _); refine wpList_bs1 rfl _ _ rfl appInt rfl (cs := [Value.int .i64 (-1)]) rfl rfl (by decide) ?_) | (go_at_call 29; refine (repeat_calls (-1) nb (by omega) _ _ hb4).mono ?_; rintro r w5 ⟨g, rfl, hg5, hb5, hx5⟩))
  have hX5 := hX4.trans hx5
  have hg1 : w1.heap.size ≤ g := by omega
  have hz5 := hX5.size
  have hb5' : Blk w5 g ((List.replicate nb (-1 : Int)).map (Value.int .i64)).toArray 3 := by rw [List.map_replicate]; exact hb5
  have HBR := Lib.hid hb5'
  have HXR := Lib.hid hX5
  have y1 := (HB.out.ext hX5).has 1 _ rfl
  rw [Nat.zero_add] at y1
  clear hx4 hb4 y4 hX4 hs4 hx5 hg5 hx3 HB2 hx2 hb5 hb5' hX5
  generalize w3.alloc _ = w4 at *
  go_wp2_with fail
  refine wp_loop (fun a wr => ∃ (k : Nat) (x0 x4 x5 x7 x8 x9 x10 x11 x12 x13 x14 x15 x16 x17 x18 x19 x20 x21 x22 x23 x24 x25 x26 x27 x28 x32 x33 x34 x35 x36 x37 x38 x39 x40 x41 x42 x43 x44 x45 x46 x47 x48 x49 x50 x51 x52 x53 x54 x55 x56 x57 : Value), a = ⟨#[x0, .pointer (some ⟨w.heap.size, 0, Option.none⟩), .slice Option.none 0 0, .int .i64 0, x4, x5, .slice (some ⟨g, 0, Option.none⟩) nb nb, x7, x8, x9, x10, x11, x12, x13, x14, x15, x16, x17, x18, x19, x20, x21, x22, x23, x24, x25, x26, x27, x28, .slice a0 d.procs.length c0, .int .i64 d.procs.length, .int .i64 (k : Int), x32, x33, x34, x35, x36, x37, x38, x39, x40, x41, x42, x43, x44, x45, x46, x47, x48, x49, x50, x51, x52, x53, x54, x55, x56, x57], []⟩ ∧
   k ≤ d.procs.length ∧ ∃ out : List Int, out.length = nb ∧ Hid (drvEnd (drvs k ((wsM d).drop k) out) = ep) ∧ Blk wr g (out.map (Value.int .i64)).toArray 3 ∧ Ext w1 wr) (fun a _ => d.procs.length - (intOf (a.tmps.getD 31 undef)).toNat)
   ⟨0, _, _, _, _, _, _, _, _, _, _, _, _, _, _, _, _, _, _, _, _, _, _, _, _, _, _, _, _, _, _, _, _, _, _, _, _, _, _, _, _, _, _, _, _, _, _, _, _, _, _, _, rfl, Nat.zero_le _, List.replicate nb (-1), by simp, HEN, HBR.out, HXR.out⟩ ?_
  clear HBR HXR y1 HEN HEP
  rintro a wr ⟨k, x0, x4, x5, x7, x8, x9, x10, x11, x12, x13, x14, x15, x16, x17, x18, x19, x20, x21, x22, x23, x24, x25, x26, x27, x28, x32, x33, x34, x35, x36, x37, x38, x39, x40, x41, x42, x43, x44, x45, x46, x47, x48, x49, x50, x51, x52, x53, x54, x55, x56, x57, rfl, hk, out, hol, HEN, hbr, hxr⟩
  have HOL := Lib.hid hol
  have HBR := Lib.hid hbr
  have HXR := Lib.hid hxr
  clear hol hbr hxr
  by_cases hlt : k < d.procs.length
  ·have HBX := Lib.hid (HB.out.ext HXR.out)
   have HWR := Lib.hid (Writes_ok d _ wr ((HF.out.ext HX.out).ext HXR.out) hok HC0.out hlt)
   have hws := wsM_drop d k hlt
   have hrange := writesM_range hok HC0.out (p := (k : Int)) (by simpa using hlt)
   have hlw := lt_length _ _ (numbersM_lt _ _ : (writesM d (k : Int)).Pairwise (· < ·)) hrange
   have hen := HEN.out
   rw [hws, drvs] at hen
   rw [HNB.out] at hrange hlw
   generalize writesM d (k : Int) = l at *
   have HRG := Lib.hid hrange
   have HEN2 := Lib.hid hen
   clear hws hrange hen HEN
   go_upto_region 9 with (first | ((with_reducible show wpList _ _ _ (⟨_, Op.load 26 _, _, _, _, _⟩ :: _) _ _); refine wpList_load_has rfl 26 _ rfl rfl (HBX.out.has) agg_Flat rfl ?_) | (go_at_call 24; refine HWR.out.mono ?_; rintro r w6 ⟨u6, rfl, hr6, hx6⟩))
   obtain ⟨al, bl, ol, cl, rfl, hl1, hl2, hal, hlr⟩ := hr6.cells.open
   have HAL := Lib.hid hal
   have HLR := Lib.hid hlr
   have HB6 := Lib.hid (HBR.out.ext hx6)
   have HX6 := Lib.hid (HXR.out.trans hx6)
   have HR6 := Lib.hid hr6
   have hgw := HBR.out.lt
   clear hr6 hal hlr hx6 HBX HWR HBR HXR
   go_wp2_with fail
   refine wp_loop (fun a wi => ∃ (j : Nat) (y0 y4 y5 y8 y9 y10 y11 y12 y13 y14 y15 y16 y17 y18 y19 y20 y21 y22 y23 y24 y25 y26 y27 y28 y32 y33 y34 y35 y36 y37 y38 y39 y43 y44 y45 y46 y47 y48 y49 y50 y51 y52 y53 y54 y55 y56 y57 : Value), a = ⟨#[y0, .pointer (some ⟨w.heap.size, 0, Option.none⟩), .slice Option.none 0 0, .int .i64 0, y4, y5, .slice (some ⟨g, 0, Option.none⟩) nb nb, .int .i64 (k : Int), y8, y9, y10, y11, y12, y13, y14, y15, y16, y17, y18, y19, y20, y21, y22, y23, y24, y25, y26, y27, y28, .slice a0 d.procs.length c0, .int .i64 d.procs.length, .int .i64 (k : Int), y32, y33, y34, y35, y36, y37, y38, y39, .slice al l.length cl, .int .i64 l.length, .int .i64 (j : Int), y43, y44, y45, y46, y47, y48, y49, y50, y51, y52, y53, y54, y55, y56, y57], []⟩ ∧
    j ≤ l.length ∧ ∃ out : List Int, out.length = nb ∧ Hid (drvEnd (match drv1 (k : Int) (l.drop j) out with | none => none | some o => drvs (k + 1) ((wsM d).drop (k + 1)) o) = ep) ∧ Blk wi g (out.map (Value.int .i64)).toArray 3 ∧ w6.grownBy wi (some g)) (fun a _ => l.length - (intOf (a.tmps.getD 42 undef)).toNat)
    ⟨0, _, _, _, _, _, _, _, _, _, _, _, _, _, _, _, _, _, _, _, _, _, _, _, _, _, _, _, _, _, _, _, _, _, _, _, _, _, _, _, _, _, _, _, _, _, _, _, rfl, Nat.zero_le _, out, HOL.out, HEN2, HB6.out, gb_refl _ _⟩ ?_
   clear HEN2 HB6 HOL
   rintro a wi ⟨j, y0, y4, y5, y8, y9, y10, y11, y12, y13, y14, y15, y16, y17, y18, y19, y20, y21, y22, y23, y24, y25, y26, y27, y28, y32, y33, y34, y35, y36, y37, y38, y39, y43, y44, y45, y46, y47, y48, y49, y50, y51, y52, y53, y54, y55, y56, y57, rfl, hj, out', hol, HEN, hbr, hgi⟩
   have HOL := Lib.hid hol
   have HBR := Lib.hid hbr
   have HGI := Lib.hid hgi
   have hx8 : Ext w1 wi := Ext.grown HX6.out hgi hg1
   have HX8 := Lib.hid hx8
   clear hol hbr hgi hx8
   by_cases hjl : j < l.length
   ·obtain rfl := HAL.out (by omega)
    have hq := (HLR.out.get (List.getElem?_eq_getElem hjl))
    have hbq := HRG.out _ (List.getElem_mem hjl)
    have hdr := HEN.out
    rw [List.drop_eq_getElem_cons hjl, drv1] at hdr
    have hne : bl ≠ g := by
     obtain ⟨g', c', he, hge, -⟩ := HR6.out.open1 (by omega)
     injection he with e1
     injection e1 with e1
     injection e1 with e1
     omega
    have yq := (Has.grown hq HGI.out hne) 0 _ rfl
    simp only [Nat.mul_one, Nat.add_zero] at yq
    generalize l[j] = b at *
    obtain ⟨b', rfl⟩ : ∃ b' : Nat, b = b' := ⟨b.toNat, by omega⟩
    have hbo : b' < out'.length := by rw [HOL.out]; omega
    rw [Int.toNat_natCast] at hdr
    rw [List.getD_eq_getElem?_getD, List.getElem?_eq_getElem hbo] at hdr
    simp only [Option.getD_some] at hdr
    have yo := HBR.out.cell b'
    rw [List.getElem?_toArray, List.getElem?_map, List.getElem?_eq_getElem hbo] at yo
    simp only [Option.map_some] at yo
    have yf := HBR.out.frozen b'
    generalize out'[b'] = ob at *
    by_cases hob : 0 ≤ ob
    ·rw [if_pos hob] at hdr
     simp only [drvEnd] at hdr
     have HEN2 := Lib.hid hdr
     clear hdr HEN hq hbo
     go_wp2_with fail
     refine bodyPost_ret (v := .tuple #[.slice Option.none 0 0, .int .i64 120]) (by simp [results, Tryz.results11, go_sem]) rfl ⟨.slice Option.none 0 0, by rw [← HEN2.out], by rw [← HEN2.out]; exact IntRow.nil _ _, HX.out.trans HX8.out⟩
    ·rw [if_neg hob] at hdr
     have HEN2 := Lib.hid hdr
     have hb9 := blk_setI HBR.out b' (k : Int)
     have hg9 := gb_trans HGI.out (gb_set wi g b' (.int .i64 (k : Int)))
     have HB9 := Lib.hid hb9
     have HG9 := Lib.hid hg9
     clear hdr HEN hq hbo hb9 hg9
     go_wp2_with fail
     exact ⟨⟨j + 1, by omega, by omega, out'.set b' (k : Int), by rw [List.length_set]; exact HOL.out, HEN2, HB9.out, HG9.out⟩, by simp [intOf]; omega⟩
   ·obtain rfl : j = l.length := by omega
    have hdr := HEN.out
    rw [List.drop_length, drv1] at hdr
    have HEN2 := Lib.hid hdr
    clear hdr HEN
    go_wp2_with fail
    exact ⟨⟨k + 1, by omega, by omega, out', HOL.out, HEN2, HBR.out, HX8.out⟩, by simp [intOf]; omega⟩
  ·obtain rfl : k = d.procs.length := by omega
   have hen := HEN.out
   rw [List.drop_of_length_le (by rw [wsM_length]; exact Nat.le_refl _), drvs] at hen
   simp only [drvEnd] at hen
   have HEN2 := Lib.hid hen
   clear hen HEN
   go_wp2_with fail
   have e2 := HEN2.out
   have hrow := IntRow.ofBlk (N := w.heap.size) HBR.out (by omega) (by rw [HOL.out]; omega)
   rw [HOL.out] at hrow
   refine bodyPost_ret (v := .tuple #[.slice (some ⟨g, 0, Option.none⟩) nb nb, .int .i64 0]) (by simp [results, Tryz.results11, go_sem]) rfl ⟨_, by rw [← e2], by rw [← e2]; exact hrow, HX.out.trans HXR.out⟩
 ·have HC0 := Lib.hid hck
  have hep := HEP.out
  unfold drvD at hep
  rw [if_neg hck] at hep
  subst hep
  have hbq : (checkM d == 0) = false := by rw [beq_eq_false_iff_ne]; exact hck
  clear hck
  go_wp2_with (first | ((with_reducible show wpList _ _ _ (⟨_, Op.load 26 _, _, _, _, _⟩ :: _) _ _); refine wpList_load_has rfl 26 _ rfl rfl (HB.out.has) agg_Flat rfl ?_) | (go_at_call 28; refine HCK.out.mono ?_; rintro r w2 ⟨rfl, hx2⟩))
  refine bodyPost_ret (v := .tuple #[.slice Option.none 0 0, .int .i64 1]) (by simp [results, Tryz.results11, go_sem]) rfl ⟨.slice Option.none 0 0, rfl, IntRow.nil _ _, HX.out.trans hx2⟩

open Go.RowKit

/-! ### (graph).next: the least process of wires that can come -/
def clks (d : Flat) : List Bool := d.procs.map (·.clocked)

theorem nextFrom_step (g : List (List Int)) (clk come : List Bool) (n k : Nat) (h : k < n) : nextFrom g clk come (n - k) k = if ready g clk come k = true then (k : Int) else nextFrom g clk come (n - (k + 1)) (k + 1) := by
 obtain ⟨m, hm⟩ : ∃ m, n - k = m + 1 := ⟨n - k - 1, by omega⟩
 rw [hm, nextFrom, show n - (k + 1) = m by omega]

theorem ready_at (G : List (List Int)) (clk come : List Bool) (k : Nat) (lk : List Int) (cb pb : Bool) (h1 : come[k]? = some cb) (h2 : clk[k]? = some pb) (h3 : G[k]? = some lk) :
  ready G clk come k = (!cb && !pb && lk.all fun q => come.getD q.toNat false) := by
 unfold ready
 rw [List.getD_eq_getElem?_getD, List.getD_eq_getElem?_getD (l := clk), List.getD_eq_getElem?_getD (l := G), h1, h2, h3]
 rfl

set_option maxRecDepth 100000 in
set_option maxHeartbeats 2000000 in
theorem next_calls (d : Flat) (v gv : Value) (G : List (List Int)) (come : List Bool) (C : Nat) (w : World) (h : FlatV w v d) (hg : IntsL w gv G) (hln : G.length = d.procs.length) (hcl : come.length = G.length)
  (hC : Blk w C (come.map Value.bool).toArray 4) (hr : ∀ l ∈ G, l.length ≤ 1073741824 ∧ ∀ q ∈ l, 0 ≤ q ∧ q.toNat < G.length) (hG : G.length ≤ 1073741824) :
  Calls Tryz.prog 99 #[gv, v, .slice (some ⟨C, 0, none⟩) G.length G.length] w fun r w' => r = .returned (.int .i64 (nextM G (clks d) come)) ∧ Ext w w' := by
 obtain ⟨sv, pv, cv, rfl, hS, hP, hCk⟩ := h
 obtain ⟨a0, b0, o0, c0, rfl, hc1, hc2, ha, hpr⟩ := hP.open
 obtain ⟨ag, bg, og, cg, rfl, hg1, hg2, hag, hgr⟩ := hg.open
 obtain ⟨n, hn⟩ : ∃ n, G.length = n := ⟨_, rfl⟩
 have hdn : d.procs.length = n := by rw [← hln, hn]
 obtain ⟨res, hres⟩ : ∃ res, nextM G (clks d) come = res := ⟨_, rfl⟩
 have hres0 : nextFrom G (clks d) come (n - 0) 0 = res := by rw [← hres, nextM, hn]; rfl
 rw [hdn] at hc1 ha ⊢
 rw [hn] at hg1 hag hcl hr hG ⊢
 rw [hres]
 have HN := Lib.hid hn
 have HDN := Lib.hid hdn
 have HX := Lib.hid (ext_alloc w (.cells [sv, .slice a0 n c0, cv].toArray 26))
 have HB := Lib.hid (Blk.new w [sv, .slice a0 n c0, cv].toArray 26)
 have HA := Lib.hid ha
 have HPR := Lib.hid hpr
 have HAG := Lib.hid hag
 have HGR := Lib.hid hgr
 have HC := Lib.hid hC
 have HR := Lib.hid hr
 have HCL := Lib.hid hcl
 have HRES := Lib.hid hres0
 have hcb := hC.lt
 clear hS hCk hP hg ha hpr hag hgr hC hr hcl hn hdn hln hres hres0
 go_enter Tryz.func99, Tryz.ntmps99
 go_wp2_with fail
 go_step3
 go_wp2_with fail
 go_step3
 go_wp2_with fail
 generalize w.alloc _ = w1 at *
 refine wp_loop (fun a wr => ∃ (k : Nat) (x7 x8 x9 x10 x14 x15 x16 x17 x18 x19 x20 x21 x22 x23 x24 x25 x26 x27 x28 x29 x30 x31 x32 x33 x34 x35 x36 x37 x38 x39 x40 x41 x42 x43 : Value), a = ⟨#[.slice ag n cg, .agg #[sv, .slice a0 n c0, cv], .slice (some ⟨C, 0, Option.none⟩) n n, undef, .pointer (some ⟨w.heap.size, 0, Option.none⟩), undef, .int .i64 0, x7, x8, x9, x10, .slice ag n cg, .int .i64 n, .int .i64 (k : Int), x14, x15, x16, x17, x18, x19, x20, x21, x22, x23, x24, x25, x26, x27, x28, x29, x30, x31, x32, x33, x34, x35, x36, x37, x38, x39, x40, x41, x42, x43], []⟩ ∧
  k ≤ n ∧ Hid (nextFrom G (clks d) come (n - k) k = res) ∧ wr = w1) (fun a _ => n - (intOf (a.tmps.getD 13 undef)).toNat)
  ⟨0, _, _, _, _, _, _, _, _, _, _, _, _, _, _, _, _, _, _, _, _, _, _, _, _, _, _, _, _, _, _, _, _, _, _, rfl, Nat.zero_le _, HRES, rfl⟩ ?_
 rintro a wr ⟨k, x7, x8, x9, x10, x14, x15, x16, x17, x18, x19, x20, x21, x22, x23, x24, x25, x26, x27, x28, x29, x30, x31, x32, x33, x34, x35, x36, x37, x38, x39, x40, x41, x42, x43, rfl, hk, HK, rfl⟩
 by_cases hlt : k < n
 ·obtain rfl := HA.out (by omega)
  obtain rfl := HAG.out (by omega)
  have hkc : k < come.length := by rw [HCL.out]; exact hlt
  have hkp : k < d.procs.length := by rw [HDN.out]; exact hlt
  have hkg : k < G.length := by rw [HN.out]; exact hlt
  obtain ⟨s1, hhas, -⟩ := Procs.get HPR.out hkp
  obtain ⟨u, he1, he2⟩ := HGR.out.get (List.getElem?_eq_getElem hkg)
  have yc := (HC.out.ext HX.out).cell k
  rw [List.getElem?_toArray, List.getElem?_map, List.getElem?_eq_getElem hkc] at yc
  simp only [Option.map_some] at yc
  have yp := (hhas.ext HX.out) 0 _ rfl
  have yf := HB.out.has 1 _ rfl
  have yg := (he1.ext HX.out) 0 _ rfl
  simp only [Nat.mul_one, Nat.add_zero, Nat.zero_add] at yg yp yf
  obtain ⟨au, bu, ou, cu, rfl, hu1, hu2, hua, hur⟩ := (he2.ext HX.out).open
  have hrk := HR.out _ (List.getElem_mem hkg)
  have hready := ready_at G (clks d) come k G[k] come[k] d.procs[k].clocked (List.getElem?_eq_getElem hkc) (by unfold clks; rw [List.getElem?_map, List.getElem?_eq_getElem hkp]; rfl) (List.getElem?_eq_getElem hkg)
  have hstep := nextFrom_step G (clks d) come n k hlt
  rw [hready, HK.out] at hstep
  generalize G[k] = lk at *
  generalize come[k] = cb at *
  generalize d.procs[k].clocked = pb at *
  have HSTEP := Lib.hid hstep
  have HUA := Lib.hid hua
  have HUR := Lib.hid hur
  have HRK := Lib.hid hrk.2
  have hlk := hrk.1
  clear hready hstep he1 he2 hhas hkc hkp hkg hua hur hrk
  cases cb
  ·cases pb
   ·have hall : (if (lk.all fun q => come.getD q.toNat false) = true then (k : Int) else nextFrom G (clks d) come (n - (k + 1)) (k + 1)) = res := by
     have := HSTEP.out
     simpa using this.symm
    have HALL := Lib.hid hall
    clear hall HSTEP
    go_wp2_with fail
    refine wp_loop (fun a wi => ∃ (j : Nat) (y10 y33 y34 y35 y36 y37 y38 y39 y40 y41 y42 y43 : Value), a = ⟨#[.slice (some ⟨bg, og, Option.none⟩) n cg, .agg #[sv, .slice (some ⟨b0, o0, Option.none⟩) n c0, cv], .slice (some ⟨C, 0, Option.none⟩) n n, undef, .pointer (some ⟨w.heap.size, 0, Option.none⟩), undef, .int .i64 0, .int .i64 (k : Int), .slice au lk.length cu, x9, y10, .slice (some ⟨bg, og, Option.none⟩) n cg, .int .i64 n, .int .i64 (k : Int), .bool true, .int .i64 (k : Int), .pointer (some ⟨bg, og + k, Option.none⟩), .slice au lk.length cu, .slice (some ⟨C, 0, Option.none⟩) n n, .int .i64 (k : Int), .pointer (some ⟨C, k, Option.none⟩), .bool false, .bool false, .pointer (some ⟨w.heap.size, 1, Option.none⟩), .slice (some ⟨b0, o0, Option.none⟩) n c0, .int .i64 (k : Int), .pointer (some ⟨b0, o0 + k * 2, Option.none⟩), .pointer (some ⟨b0, o0 + k * 2, Option.none⟩), .bool false, .bool false, .slice au lk.length cu, .int .i64 lk.length, .int .i64 (j : Int), y33, y34, y35, y36, y37, y38, y39, y40, y41, y42, y43], []⟩ ∧
     j ≤ lk.length ∧ Hid ((lk.drop j).all (fun q => come.getD q.toNat false) = lk.all fun q => come.getD q.toNat false) ∧ wi = wr) (fun a _ => lk.length - (intOf (a.tmps.getD 32 undef)).toNat)
     ⟨0, _, _, _, _, _, _, _, _, _, _, _, _, rfl, Nat.zero_le _, Lib.hid rfl, rfl⟩ ?_
    rintro a wi ⟨j, y10, y33, y34, y35, y36, y37, y38, y39, y40, y41, y42, y43, rfl, hj, HJ, rfl⟩
    by_cases hjl : j < lk.length
    ·obtain rfl := HUA.out (by omega)
     have hq := HUR.out.get (List.getElem?_eq_getElem hjl)
     have yq := hq 0 _ rfl
     simp only [Nat.mul_one, Nat.add_zero] at yq
     have hqr := HRK.out _ (List.getElem_mem hjl)
     have hJ := HJ.out
     rw [List.drop_eq_getElem_cons hjl, List.all_cons] at hJ
     generalize lk[j] = q at *
     obtain ⟨q', rfl⟩ : ∃ q' : Nat, q = q' := ⟨q.toNat, by omega⟩
     have hqc : q' < come.length := by have := HCL.out; omega
     have ycq := (HC.out.ext HX.out).cell q'
     rw [List.getElem?_toArray, List.getElem?_map, List.getElem?_eq_getElem hqc] at ycq
     simp only [Option.map_some] at ycq
     have hgd : come.getD ((q' : Int)).toNat false = come[q'] := by rw [Int.toNat_natCast, List.getD_eq_getElem?_getD, List.getElem?_eq_getElem hqc]; rfl
     rw [hgd] at hJ
     generalize come[q'] = cq at *
     have HJ2 := Lib.hid hJ
     clear hJ hq hqc hgd HJ
     cases cq
     ·have hnx : nextFrom G (clks d) come (n - (k + 1)) (k + 1) = res := by
       have e := HJ2.out
       rw [Bool.false_and] at e
       have := HALL.out
       rw [← e] at this
       simpa using this
      have HNX := Lib.hid hnx
      clear hnx HALL HJ2
      go_wp2_with fail
      exact ⟨⟨k + 1, by omega, by omega, HNX⟩, by simp [intOf]; omega⟩
     ·have hJ3 : (lk.drop (j + 1)).all (fun q => come.getD q.toNat false) = lk.all fun q => come.getD q.toNat false := by
       have e := HJ2.out
       rwa [Bool.true_and] at e
      have HJ3 := Lib.hid hJ3
      clear hJ3 HJ2
      go_wp2_with fail
      exact ⟨⟨j + 1, by omega, by omega, HJ3⟩, by simp [intOf]; omega⟩
    ·have hjj : j = lk.length := by omega
     have hall : (k : Int) = res := by
      have e := HJ.out
      rw [hjj, List.drop_length, List.all_nil] at e
      have := HALL.out
      rw [← e] at this
      simpa using this
     have HAL2 := Lib.hid hall
     clear hall HJ HALL
     go_wp2_with fail
     try rw [Exit.noGoto_ret]
     go_ret
     exact ⟨ret_int HAL2.out, HX.out⟩
   ·have hnx : nextFrom G (clks d) come (n - (k + 1)) (k + 1) = res := by
     have := HSTEP.out
     simpa using this.symm
    have HNX := Lib.hid hnx
    clear hnx HSTEP
    go_wp2_with fail
    exact ⟨⟨k + 1, by omega, by omega, HNX⟩, by simp [intOf]; omega⟩
  ·have hnx : nextFrom G (clks d) come (n - (k + 1)) (k + 1) = res := by
    have := HSTEP.out
    simpa using this.symm
   have HNX := Lib.hid hnx
   clear hnx HSTEP
   go_wp2_with fail
   exact ⟨⟨k + 1, by omega, by omega, HNX⟩, by simp [intOf]; omega⟩
 ·obtain rfl : k = n := by omega
  go_wp2_with fail
  try rw [Exit.noGoto_ret]
  go_ret
  have := HK.out
  rw [Nat.sub_self, nextFrom] at this
  exact ⟨ret_int this, HX.out⟩

open Go.RowKit

/-! ### (graph).order -/
theorem info_bool : (Tryz.prog.info? 4).map (fun i => (i.zero, i.size, i.bytes)) = some (some (.bool false), 1, 1) := by kernel_rfl
theorem blk_setB {w : World} {g : Nat} {l : List Bool} (h : Blk w g (l.map Value.bool).toArray 4) (j : Nat) (x : Bool) : Blk (w.setCell ⟨g, j, none⟩ (.bool x)) g ((l.set j x).map Value.bool).toArray 4 := by
 have := h.set j (.bool x)
 rw [Ja] at this
 rw [List.map_set]
 exact this
theorem falses_le (l : List Bool) : falses l ≤ l.length := List.countP_le_length

def lenV : Value → Nat
 | .slice _ m _ => m
 | _ => 0
/-- the order of a graph -/
def ordM (G : List (List Int)) (clk : List Bool) : List Int := orderM G clk (G.length + 1) (List.replicate G.length false) []

set_option maxRecDepth 100000 in
set_option maxHeartbeats 4000000 in
theorem order_calls (d : Flat) (v gv : Value) (G : List (List Int)) (w : World) (h : FlatV w v d) (hg : IntsL w gv G) (hln : G.length = d.procs.length) (hG : G.length ≤ 1073741824)
  (hr : ∀ l ∈ G, l.length ≤ 1073741824 ∧ ∀ q ∈ l, 0 ≤ q ∧ q.toNat < G.length) :
  Calls Tryz.prog 56 #[gv, v] w fun r w' => ∃ u, r = .returned u ∧ IntRow w.heap.size u (ordM G (clks d)) w' ∧ Ext w w' := by
 have HF := Lib.hid h
 have HGL := Lib.hid hg
 have HR := Lib.hid hr
 have HLN := Lib.hid hln
 obtain ⟨sv, pv, cv, rfl, hS, hP, hCk⟩ := h
 have HX := Lib.hid (ext_alloc w (.cells [sv, pv, cv].toArray 26))
 have HB := Lib.hid (Blk.new w [sv, pv, cv].toArray 26)
 obtain ⟨ag, bg, og, cg, rfl, hg1, hg2, hag, hgr⟩ := hg.open
 obtain ⟨n, hn⟩ : ∃ n, G.length = n := ⟨_, rfl⟩
 obtain ⟨res, hres⟩ : ∃ res, ordM G (clks d) = res := ⟨_, rfl⟩
 have hres0 : orderM G (clks d) (n + 1) (List.replicate n false) [] = res := by rw [← hres, ← hn]; rfl
 rw [hn] at hG hg1 HGL
 rw [hn, hres]
 have HN := Lib.hid hn
 have HRES := Lib.hid hres0
 clear hS hP hCk hg hr hag hgr hln hres hres0 hn
 go_enter Tryz.func56, Tryz.ntmps56
 go_upto_region 1 with fail
 generalize w.alloc _ = w1 at *
 go_wp2_with ((with_reducible show wpList _ _ _ (⟨_, Op.makeSlice _ _ _, _, _, _, _⟩ :: _) _ _); refine Hid.out ?_)
 refine Lib.hid ?_
 have hx2 := ext_alloc w1 (.cells (madeCells (Value.bool false).cells (n * 1)) 4)
 have hb2 := Blk.new w1 (madeCells (Value.bool false).cells (n * 1)) 4
 rw [show madeCells (Value.bool false).cells (n * 1) = (List.replicate n (Value.bool false)).toArray by rw [Nat.mul_one]; exact madeCells_one _ _] at hx2 hb2
 refine wpList_mk rfl _ _ _ rfl (n := n) rfl rfl Tryz.underlying35 info_bool (by omega) (by omega) ?_
 rw [show madeCells (Value.bool false).cells (n * 1) = (List.replicate n (Value.bool false)).toArray by rw [Nat.mul_one]; exact madeCells_one _ _]
 have hs2 : (w1.alloc (.cells (List.replicate n (Value.bool false)).toArray 4)).heap.size = w1.heap.size + 1 := by simp
 generalize w1.alloc _ = w2 at *
 obtain ⟨c, hc⟩ : ∃ c, w1.heap.size = c := ⟨_, rfl⟩
 have hcw : w.heap.size ≤ c := by rw [← hc]; exact HX.out.size
 rw [hc] at hb2 hs2 ⊢
 have hb2' : Blk w2 c ((List.replicate n false).map Value.bool).toArray 4 := by rw [List.map_replicate]; exact hb2
 have HC := Lib.hid hc
 have HX2 := Lib.hid hx2
 have HB2 := Lib.hid hb2'
 have hz2 : c < w2.heap.size := by omega
 clear hc hx2 hb2 hb2' hs2
 /- one call of next -/
 have NEXT : Hid (∀ (come : List Bool) (W : World), come.length = n → Blk W c (come.map Value.bool).toArray 4 → Ext w1 W →
   Calls Tryz.prog 99 #[.slice ag n cg, .agg #[sv, pv, cv], .slice (some ⟨c, 0, none⟩) n n] W fun r w' => r = .returned (.int .i64 (nextM G (clks d) come)) ∧ Ext W w') := Lib.hid fun come W h1 h2 h3 => by
  have hXW := HX.out.trans h3
  have := next_calls d (.agg #[sv, pv, cv]) (.slice ag n cg) G come c W (HF.out.ext hXW) (HGL.out.ext hXW) HLN.out (by rw [h1, HN.out]) h2 HR.out (by rw [HN.out]; exact hG)
  rw [HN.out] at this
  exact this
 have HBX := Lib.hid (HB.out.ext HX2.out)
 have N0 := Lib.hid (NEXT.out (List.replicate n false) w2 (by simp) HB2.out HX2.out)
 go_upto_region 4 with (first | ((with_reducible show wpList _ _ _ (⟨_, Op.load 26 _, _, _, _, _⟩ :: _) _ _); refine wpList_load_has rfl 26 _ rfl rfl (HBX.out.has) agg_Flat rfl ?_) | (go_at_call 99; refine N0.out.mono ?_; rintro r w3 ⟨rfl, hx3⟩))
 have hb3 := HB2.out.ext hx3
 have hX3 := HX2.out.trans hx3
 have hfl : falses (List.replicate n false) = n := by unfold falses; rw [List.countP_replicate]; simp
 refine wp_loop (fun a wr => ∃ (u : Value) (come : List Bool) (out : List Int) (fuel : Nat) (x1 x2 x8 x9 x10 x11 x12 x13 x14 x15 x16 x17 x18 x19 x20 x21 x22 x23 x24 x25 x26 x27 x28 : Value), a = ⟨#[.slice ag n cg, x1, x2, .pointer (some ⟨w.heap.size, 0, Option.none⟩), .slice Option.none 0 0, .slice (some ⟨c, 0, Option.none⟩) n n, u, .int .i64 (nextM G (clks d) come), x8, x9, x10, x11, x12, x13, x14, x15, x16, x17, x18, x19, x20, x21, x22, x23, x24, x25, x26, x27, x28], []⟩ ∧
  come.length = n ∧ out.length + falses come = n ∧ falses come < fuel ∧ Hid (orderM G (clks d) fuel come out = res) ∧ Blk wr c (come.map Value.bool).toArray 4 ∧ IntRow c u out wr ∧ Ext w1 wr) (fun a _ => n - lenV (a.tmps.getD 6 undef))
  ⟨_, List.replicate n false, [], n + 1, _, _, _, _, _, _, _, _, _, _, _, _, _, _, _, _, _, _, _, _, _, _, _, rfl, by simp, by rw [hfl]; simp, by rw [hfl]; omega, HRES, hb3, IntRow.nil _ _, hX3⟩ ?_
 clear hb3 hX3 hfl HRES HB2 N0 HX2 HBX hx3
 rintro a wr ⟨u, come, out, fuel, x1, x2, x8, x9, x10, x11, x12, x13, x14, x15, x16, x17, x18, x19, x20, x21, x22, x23, x24, x25, x26, x27, x28, rfl, hcl, hof, hff, HO, hbc, hro, hxr⟩
 obtain ⟨au, cu, hu, -⟩ := hro.open
 have HBC := Lib.hid hbc
 have HRO := Lib.hid hro
 have HXR := Lib.hid hxr
 have HCL := Lib.hid hcl
 have hcr := hbc.lt
 obtain ⟨f, hfe⟩ : ∃ f, fuel = f + 1 := ⟨fuel - 1, by omega⟩
 rw [hfe] at HO hff
 have hord := HO.out
 rw [orderM] at hord
 try simp only at hord
 clear hbc hro hxr hcl HO hfe
 rcases nextM_spec G (clks d) come with ⟨h1, h2⟩ | ⟨k, h1, h2, h3⟩
 ·rw [h1, if_neg (by decide)] at hord
  have HORD := Lib.hid hord
  subst hu
  rw [h1]
  clear h1 h2 hord
  go_wp2_with fail
  go_ret
  exact ⟨_, rfl, by rw [← HORD.out]; exact HRO.out.less hcw, HX.out.trans HXR.out⟩
 ·rw [h1, if_pos (by omega), Int.toNat_natCast] at hord
  have hkn : k < n := by rw [← HN.out]; exact h2
  have hfp := falses_pos come k (by rw [HCL.out]; exact hkn) ((ready_iff _ _ _ _).1 h3).1
  have hkc : k < come.length := by rw [HCL.out]; exact hkn
  rw [h1]
  obtain ⟨m, hm⟩ : ∃ m, out.length = m := ⟨_, rfl⟩
  rw [hm] at hu hof
  have hmn : m < n := by omega
  subst hu
  have HM := Lib.hid hm
  have HORD := Lib.hid hord
  have yc := HBC.out.cell k
  rw [List.getElem?_toArray, List.getElem?_map, List.getElem?_eq_getElem hkc] at yc
  simp only [Option.map_some] at yc
  generalize come[k] = cb at yc
  have yf := HBC.out.frozen k
  have hb4 := blk_setB HBC.out k true
  have hg4 := gb_set wr c k (.bool true)
  have hr4 := HRO.out.grown hg4 (fun q hq e => HRO.out.ne HBC.out (by decide) hq (by cases e; rfl))
  have hx4 : Ext w1 _ := Ext.grown HXR.out hg4 (by rw [HC.out]; exact Nat.le_refl _)
  have hs4 := hg4.size
  have hcome : (come.set k true).length = n := by rw [List.length_set]; exact HCL.out
  have hof2 : m + 1 + falses (come.set k true) = n := by omega
  have hff2 : falses (come.set k true) < f := by omega
  generalize come.set k true = come' at *
  have HB4 := Lib.hid hb4
  have HR4 := Lib.hid hr4
  have HX4 := Lib.hid hx4
  have HCO := Lib.hid hcome
  clear h1 h2 h3 hord hfp hkc hm hb4 hg4 hr4 hx4 hcome hof hff
  go_upto_region 7 with fail
  generalize wr.setCell _ _ = w4 at *
  have hx5 := ext_alloc w4 (.cells [Value.int .i64 (k : Int)].toArray 3)
  have hb5 := Blk.new w4 [Value.int .i64 (k : Int)].toArray 3
  have hr5 := HR4.out.ext hx5
  have hs5 : (w4.alloc (.cells [Value.int .i64 (k : Int)].toArray 3)).heap.size = w4.heap.size + 1 := by simp
  have hbc5 := HB4.out.ext hx5
  have hX5 := HX4.out.trans hx5
  have hww := (HX.out.trans hX5).size
  go_wp2_with (first | ((with_reducible show wpList _ _ _ (⟨_, Op.buildSlice _ _ _, _, _, _, _⟩ :: _) _ _); refine wpList_bs1 rfl _ _ rfl appInt rfl (cs := [Value.int .i64 (k : Int)]) rfl rfl (by decide) ?_) | ((with_reducible show wpList _ _ _ (⟨_, Op.call { callee := .builtin .append, args := _, argTypes := _ }, _, _, _, _⟩ :: _) _ _); refine Hid.out ?_))
  refine Lib.hid ?_
  refine wpList_appI (m := 1) (news := [(k : Int)]) rfl _ _ rfl rfl hr5 rfl (fun _ => Nat.lt_of_lt_of_le Nat.zero_lt_one (Nat.le_refl 1)) rfl (news_has hb5.has) (by rw [HM.out]; omega) (by omega) ?_
  intro g6 cap6 w6 hr6 hg6
  rw [HM.out] at hr6 ⊢
  have hbc6 : Blk w6 c (come'.map Value.bool).toArray 4 := (hg6.block _ hbc5.lt (fun e => hr5.ne hbc5 (by decide) e.symm rfl)).trans hbc5
  have hX6 : Ext w1 w6 := Ext.grownO hX5 hg6 (fun q hq => by rw [HC.out]; exact (hr5.at hq).1)
  have HBX6 := Lib.hid (HB.out.ext hX6)
  have N6 := Lib.hid (NEXT.out come' w6 HCO.out hbc6 hX6)
  have HR6 := Lib.hid hr6
  have HX6 := Lib.hid hX6
  have HBC6 := Lib.hid hbc6
  clear hr6 hX6 hbc6 hg6 hr5 hb5 hbc5 hX5 hs5 hx5 hww
  generalize w4.alloc _ = w5 at *
  go_wp2_with (first | ((with_reducible show wpList _ _ _ (⟨_, Op.load 26 _, _, _, _, _⟩ :: _) _ _); refine wpList_load_has rfl 26 _ rfl rfl (HBX6.out.has) agg_Flat rfl ?_) | (go_at_call 99; refine N6.out.mono ?_; rintro r w7 ⟨rfl, hx7⟩))
  exact ⟨⟨_, come', out ++ [(k : Int)], f, _, _, _, _, _, _, _, _, _, _, _, _, _, _, _, _, _, _, _, _, _, _, _, rfl, HCO.out, by rw [List.length_append, HM.out]; exact hof2, hff2, HORD, HBC6.out.ext hx7, HR6.out.ext hx7, HX6.out.trans hx7⟩, by simp [lenV]; omega⟩

open Go.RowKit

/-! ### plain: what is found of a design -/
def rsM (d : Flat) : List (List Int) := (List.range d.procs.length).map fun (p : Nat) => readsM d (p : Int)
theorem rsM_length (d : Flat) : (rsM d).length = d.procs.length := by simp [rsM]
def graphM (d : Flat) (by' : List Int) : List (List Int) := hangM by' (clks d) (rsM d)
theorem graphM_length (d : Flat) (by' : List Int) : (graphM d by').length = d.procs.length := by simp [graphM, hangM, rsM]
theorem graphM_get (d : Flat) (by' : List Int) {k : Nat} (hk : k < d.procs.length) : (graphM d by')[k]? = some (hang1 by' (clks d) (readsM d (k : Int)) []) := by
 simp [graphM, hangM, rsM, List.getElem?_range, hk]
/-- the drivers of a signal's bits -/
def subM (ls : List Signal) (by' : List Int) (s : Nat) : List Int := (by'.drop (sumW ls s).toNat).take (sumW ls (s + 1) - sumW ls s).toNat
/-- has a wire, or what goes out, a bit that none drives? from signal s on -/
def noneF (ls : List Signal) (by' : List Int) : Nat → List Signal → Bool
 | _, [] => false
 | s, x :: l => if ((decide (x.kind = 2) || decide (x.kind = 3)) && (subM ls by' s).contains (-1)) = true then true else noneF ls by' (s + 1) l
/-- does a process of wires not always write what it writes? from process p on -/
def latF (d : Flat) : Nat → List Proc → Bool
 | _, [] => false
 | p, x :: l => if (!x.clocked && !decide ((writesM d (p : Int)).length = (alwaysM d (p : Int)).length)) = true then true else latF d (p + 1) l
def lookM (d : Flat) : Int × List (List Int) × List Int :=
 if (drvD d).1 ≠ 0 then ((drvD d).1, [], [])
 else if noneF d.signals (drvD d).2 0 d.signals = true then (121, [], [])
 else if latF d 0 d.procs = true then (122, [], [])
 else if (ordM (graphM d (drvD d).2) (clks d)).length < wiresM (clks d) then (123, [], [])
 else (0, graphM d (drvD d).2, ordM (graphM d (drvD d).2) (clks d))
theorem drvD_cases (d : Flat) : (∃ e, drvD d = (e, []) ∧ e ≠ 0) ∨ (checkM d = 0 ∧ ∃ o, drvD d = (0, o) ∧ drvM (nBits d).toNat (wsM d) = some o) := by
 unfold drvD
 by_cases h : checkM d = 0
 ·rw [if_pos h]
  cases hd : drvM (nBits d).toNat (wsM d) with
  | none => exact .inl ⟨120, rfl, by decide⟩
  | some o => exact .inr ⟨h, o, rfl, rfl⟩
 ·rw [if_neg h]
  exact .inl ⟨1, rfl, by decide⟩
theorem wsM_range {d : Flat} (hok : d.ok) (hc : checkM d = 0) : ∀ l ∈ wsM d, ∀ b ∈ l, 0 ≤ b ∧ b < ((nBits d).toNat : Nat) := by
 intro l hl b hb
 obtain ⟨p, hp, rfl⟩ := List.mem_map.1 hl
 have := writesM_range hok hc (p := (p : Int)) (by simpa using hp) b hb
 omega
theorem drvD_len {d : Flat} (hok : d.ok) (hc : checkM d = 0) {o : List Int} (ho : drvM (nBits d).toNat (wsM d) = some o) : (o.length : Int) = nBits d ∧ ∀ x ∈ o, -1 ≤ x ∧ x < d.procs.length := by
 have := nBits_le hok hc
 have h1 := drvM_length ho
 refine ⟨by omega, fun x hx => ?_⟩
 have := drvM_range (wsM_range hok hc) ho x hx
 rwa [wsM_length] at this
/-- on whom a process hangs are processes, of wires -/
theorem graphM_range {d : Flat} (hok : d.ok) (hc : checkM d = 0) {by' : List Int} (hbl : (by'.length : Int) = nBits d) (hbr : ∀ x ∈ by', -1 ≤ x ∧ x < d.procs.length) :
  ∀ l ∈ graphM d by', l.length ≤ 1073741824 ∧ ∀ q ∈ l, 0 ≤ q ∧ q.toNat < (graphM d by').length := by
 intro l hl
 obtain ⟨r, hr, rfl⟩ := List.mem_map.1 hl
 obtain ⟨p, hp, rfl⟩ := List.mem_map.1 hr
 have hp' : p < d.procs.length := by simpa using hp
 have hrr := readsM_range hok hc (p := (p : Int)) (by simpa using hp')
 have hq : ∀ q ∈ hang1 by' (clks d) (readsM d (p : Int)) [], 0 ≤ q ∧ q.toNat < (graphM d by').length := by
  intro q hq
  obtain ⟨h1, -, b, hb, h3⟩ := (mem_hang _ _ _ _).1 hq
  refine ⟨h1, ?_⟩
  rw [graphM_length]
  have := hrr b hb
  have hlt : b.toNat < by'.length := by omega
  rw [List.getD_eq_getElem?_getD, List.getElem?_eq_getElem hlt] at h3
  have := hbr _ (List.getElem_mem hlt)
  simp only [Option.getD_some] at h3
  omega
 refine ⟨?_, hq⟩
 have key : ∀ (r g : List Int), (hang1 by' (clks d) r g).length ≤ g.length + r.length := by
  intro r
  induction r with
  | nil => intro g; simp [hang1]
  | cons b r ih =>
   intro g
   rw [hang1]
   try simp only
   split
   ·have := ih (g ++ [by'.getD b.toNat 0]); simp only [List.length_append, List.length_cons, List.length_nil] at this ⊢; omega
   ·have := ih g; simp only [List.length_cons]; omega
 have h1 := key (readsM d (p : Int)) []
 have h2 : (readsM d (p : Int)).length ≤ (nBits d).toNat := lt_length _ _ (numbersM_lt _ _ : (readsM d (p : Int)).Pairwise (· < ·)) hrr
 have h3 := nBits_le hok hc
 simp only [List.length_nil] at h1
 omega
theorem ints_sub {w : World} {g c : Nat} {l : List Int} (h : ∀ i x, l[i]? = some x → w.cell? ⟨g, i, none⟩ = some (.int .i64 x)) {a n : Nat} (hn : a + n ≤ l.length) (hc : n ≤ c) (hm : c ≤ 9223372036854775807) :
  Ints w (.slice (some ⟨g, a, none⟩) n c) ((l.drop a).take n) := by
 have hl : ((l.drop a).take n).length = n := by simp; omega
 refine ⟨g, a, ⟨_, c, by rw [hl], by rw [hl]; exact hc, by simpa [maxLen] using hm, fun _ => rfl⟩, ?_⟩
 refine rows_flat (f := fun x => [Value.int .i64 x]) (fun _ => rfl) _ a ?_
 rw [flat1]
 intro j u hj
 rw [List.getElem?_map] at hj
 cases hq : ((l.drop a).take n)[j]? with
 | none => rw [hq] at hj; cases hj
 | some x =>
  rw [hq] at hj
  cases hj
  refine h (a + j) x ?_
  rw [List.getElem?_take] at hq
  split at hq
  ·rw [List.getElem?_drop] at hq; exact hq
  ·cases hq
end Go.Proofs.YthpemngachlehaaGreat
