/- Laws and walks that a claim of this seat leans on: RefL. -/
import Derived.Test.YthpemngachlehaaGreatZ10
import Derived.Test.YthpemngachlehaaGreatZ00
set_option linter.all false
namespace Go.Proofs.YthpemngachlehaaGreat

/-! ### the document's answer for layer 9, in plain words -/
def partsR (op : Int) (len : Nat) : Bool :=
 if op = 1 ∨ op = 2 then decide (len = 0) else if op = 3 ∨ op = 4 ∨ op = 8 then decide (len = 1) else if op = 5 then decide (len = 2) else if op = 6 then decide (len = 3) else if op = 7 then decide (1 ≤ len) else false
def fieldsR (ls : List Signal) (op w v sig hi lo n : Int) : Bool :=
 if (op ≠ 1 ∧ v ≠ 0) ∨ (¬(op = 2 ∨ op = 3) ∧ sig ≠ 0) ∨ (op ≠ 2 ∧ (hi ≠ 0 ∨ lo ≠ 0)) ∨ (op ≠ 4 ∧ op ≠ 5 ∧ op ≠ 8 ∧ n ≠ 0) then false
 else if op = 1 then decide (0 ≤ w) && decide (w ≤ 64) && (decide (w = 0) || holds w v)
 else if op = 2 then slice ls sig hi lo
 else if op = 3 then decide (0 ≤ sig) && decide (sig < ls.length)
 else if op = 4 then decide (1 ≤ n) && decide (n ≤ 6)
 else if op = 5 then decide (11 ≤ n) && decide (n ≤ 26)
 else if op = 8 then decide (31 ≤ n) && decide (n ≤ 33) && decide (1 ≤ w) && decide (w ≤ 64)
 else true
theorem shape0_parts (ls : List Signal) (op w v sig hi lo n : Int) (len : Nat) : shape0 ls op w v sig hi lo n len = (partsR op len && fieldsR ls op w v sig hi lo n) := by
 unfold shape0 partsR fieldsR
 generalize holds w v = hv
 generalize slice ls sig hi lo = sv
 by_cases h1 : op = 1
 ·subst h1; rw [Bool.eq_iff_iff]; cases hv <;> simp <;> (try omega)
 by_cases h2 : op = 2
 ·subst h2; rw [Bool.eq_iff_iff]; cases sv <;> simp <;> (try omega)
 by_cases h3 : op = 3
 ·subst h3; rw [Bool.eq_iff_iff]; simp <;> (try omega)
 by_cases h4 : op = 4
 ·subst h4; rw [Bool.eq_iff_iff]; simp <;> (try omega)
 by_cases h5 : op = 5
 ·subst h5; rw [Bool.eq_iff_iff]; simp <;> (try omega)
 by_cases h6 : op = 6
 ·subst h6; rw [Bool.eq_iff_iff]; simp <;> (try omega)
 by_cases h7 : op = 7
 ·subst h7; rw [Bool.eq_iff_iff]; simp <;> (try omega)
 by_cases h8 : op = 8
 ·subst h8; rw [Bool.eq_iff_iff]; simp <;> (try omega)
 simp [h1, h2, h3, h4, h5, h6, h7, h8]

/-! ### signals -/
def sigNum (x : Signal) : Bool := decide (1 ≤ x.w) && decide (x.w ≤ 64) && decide (1 ≤ x.kind) && decide (x.kind ≤ 4) && (decide (x.kind = 4) || decide (x.init = 0))
theorem sigOk_eq (seen : List (List UInt8)) (x : Signal) : sigOk seen x = (!(seen.contains x.name.data.toList) && sigNum x) := by
 unfold sigOk sigNum; simp only [Bool.and_assoc]
theorem sigsOk_iff (ls : List Signal) : ∀ seen, sigsOk seen ls = true ↔ ∀ k (h : k < ls.length), (ls[k].name.data.toList ∉ seen) ∧ sigNum ls[k] = true ∧ ∀ j (hj : j < k), ls[j].name.data.toList ≠ ls[k].name.data.toList := by
 induction ls with
 | nil => intro seen; simp [sigsOk]
 | cons x l ih =>
  intro seen
  rw [sigsOk, sigOk_eq, Bool.and_eq_true, Bool.and_eq_true, ih]
  simp only [Bool.not_eq_true', List.contains_eq_mem, decide_eq_false_iff_not, List.mem_cons, not_or]
  constructor
  ·rintro ⟨⟨h1, h2⟩, h3⟩ k hk
   cases k with
   | zero => exact ⟨h1, h2, fun j hj => absurd hj (by omega)⟩
   | succ k =>
    obtain ⟨⟨g0, g1⟩, g2, g3⟩ := h3 k (by simpa using hk)
    refine ⟨g1, g2, fun j hj => ?_⟩
    cases j with
    | zero => simp only [Jb, Jc]; exact fun h => g0 h.symm
    | succ j => simpa using g3 j (by omega)
  ·intro h
   have h0 := h 0 (by simp)
   refine ⟨⟨h0.1, h0.2.1⟩, fun k hk => ?_⟩
   obtain ⟨g1, g2, g3⟩ := h (k + 1) (by simpa using hk)
   refine ⟨⟨?_, g1⟩, g2, fun j hj => ?_⟩
   ·have := g3 0 (by omega)
    simp only [Jb, Jc] at this
    exact fun h => this h.symm
   ·simpa using g3 (j + 1) (by omega)

/-! ### how many bits -/
def bits5 (l : List Signal) : Nat := sumBy (fun s => (min (max s.w 0) 5000).toNat) l
theorem bits5_iff (l : List Signal) : ∀ a : Nat, a + bits5 l ≤ 4096 ↔ a + bitsN l ≤ 4096 := by
 unfold bits5 bitsN
 induction l with
 | nil => intro a; simp [sumBy]
 | cons x l ih =>
  intro a
  simp only [sumBy]
  by_cases h : x.w ≤ 4097
  ·have e : (min (max x.w 0) 5000).toNat = (max 0 (min x.w 4097)).toNat := by omega
   rw [e, ← Nat.add_assoc, ← Nat.add_assoc]
   exact ih _
  ·omega
theorem bits5_le (l : List Signal) : bits5 l ≤ 5000 * l.length := by
 unfold bits5
 induction l with
 | nil => simp [sumBy]
 | cons x l ih => simp only [sumBy, List.length_cons]; omega

/-! ### expressions, sized -/
theorem sizeE_bit (e : E) : sizeE e (-1) = if 1 < own e then .error 91 else sizeE e 1 := by
 rw [sizeE_eq, sizeE_eq e 1]; by_cases h : 1 < own e <;> simp [h]
def underM (x : E) (ws : List Int) : Except Int E := match sizeE.sizeL x.l ws with | .error f => .error f | .ok l' => .ok ⟨x.op, x.w, x.v, x.sig, x.hi, x.lo, x.n, l'⟩
def unaryM (x : E) (w : Int) : Except Int E := if x.n ≤ 2 then underM x [w] else if w ≠ 1 then .error 90 else if x.n = 6 then underM x [-1] else underM x [0]
def binaryM (x : E) (w : Int) : Except Int E :=
 if x.n ≤ 16 then underM x [w, w] else if x.n ≤ 18 then underM x [w, 0] else if w ≠ 1 then .error 90 else if 25 ≤ x.n then underM x [-1, -1] else underM x [told (own.fst x.l) 32, told (own.fst x.l) 32]
def extM (e : E) (w2 : Int) : Except Int E :=
 if e.w ≠ w2 then .error 90
 else match underM ⟨e.op, w2, e.v, e.sig, e.hi, e.lo, e.n, e.l⟩ [0] with
  | .error f => .error f
  | .ok y => if (e.n ≠ 33 ∧ w2 < sizeE.hdW y.l) ∨ (e.n = 33 ∧ sizeE.hdW y.l < w2) then .error 90 else .ok y
def sizedM (e : E) (w2 : Int) : Except Int E :=
 if e.op = 1 then (if e.w ≠ 0 ∧ e.w ≠ w2 then .error 90 else if e.w = 0 ∧ holds w2 e.v = false then .error 92 else .ok ⟨e.op, w2, e.v, e.sig, e.hi, e.lo, e.n, e.l⟩)
 else if e.op = 2 ∨ e.op = 3 then (if own e ≠ w2 then .error 90 else underM ⟨e.op, w2, e.v, e.sig, e.hi, e.lo, e.n, e.l⟩ [0])
 else if e.op = 4 then unaryM ⟨e.op, w2, e.v, e.sig, e.hi, e.lo, e.n, e.l⟩ w2
 else if e.op = 5 then binaryM ⟨e.op, w2, e.v, e.sig, e.hi, e.lo, e.n, e.l⟩ w2
 else if e.op = 6 then underM ⟨e.op, w2, e.v, e.sig, e.hi, e.lo, e.n, e.l⟩ [-1, w2, w2]
 else if e.op = 7 then (if own e = 0 ∨ own e ≠ w2 ∨ 64 < own e then .error 90 else underM ⟨e.op, w2, e.v, e.sig, e.hi, e.lo, e.n, e.l⟩ (List.replicate e.l.length 0))
 else extM e w2

theorem shape_inv {ls : List Signal} {e : E} (h : shape ls e = true) :
  (e.op = 1 ∧ e.l = [] ∧ 0 ≤ e.w ∧ e.w ≤ 64 ∧ e.sig = 0 ∧ e.hi = 0 ∧ e.lo = 0 ∧ e.n = 0) ∨ (e.op = 2 ∧ e.l = [] ∧ slice ls e.sig e.hi e.lo = true) ∨ (e.op = 3 ∧ e.l.length = 1) ∨ (e.op = 4 ∧ e.l.length = 1 ∧ 1 ≤ e.n ∧ e.n ≤ 6) ∨
  (e.op = 5 ∧ e.l.length = 2 ∧ 11 ≤ e.n ∧ e.n ≤ 26) ∨ (e.op = 6 ∧ e.l.length = 3) ∨ (e.op = 7 ∧ 0 < e.l.length) ∨ (e.op = 8 ∧ e.l.length = 1 ∧ 31 ≤ e.n ∧ e.n ≤ 33 ∧ 1 ≤ e.w ∧ e.w ≤ 64) := by
 rw [shape_eq, Bool.and_eq_true] at h
 have h0 := h.1
 unfold shape0 at h0
 repeat' split at h0
 all_goals try simp only [Bool.and_eq_true, decide_eq_true_eq] at h0
 ·exact .inl ⟨by assumption, List.eq_nil_of_length_eq_zero (by omega), by omega, by omega, by omega, by omega, by omega, by omega⟩
 ·exact .inr (.inl ⟨by assumption, List.eq_nil_of_length_eq_zero (by omega), h0.1.2⟩)
 ·exact .inr (.inr (.inl ⟨by assumption, by omega⟩))
 ·exact .inr (.inr (.inr (.inl ⟨by assumption, by omega, by omega, by omega⟩)))
 ·exact .inr (.inr (.inr (.inr (.inl ⟨by assumption, by omega, by omega, by omega⟩))))
 ·exact .inr (.inr (.inr (.inr (.inr (.inl ⟨by assumption, by omega⟩)))))
 ·exact .inr (.inr (.inr (.inr (.inr (.inr (.inl ⟨by assumption, by omega⟩))))))
 ·exact .inr (.inr (.inr (.inr (.inr (.inr (.inr ⟨by assumption, by omega, by omega, by omega, by omega, by omega⟩))))))
 ·cases h0

theorem sizeE_ref {ls : List Signal} (e : E) (w : Int) (hw : 0 ≤ w) (hs : shape ls e = true) : sizeE e w = sizedM e (told w (told (own e) 32)) := by
 rw [sizeE_eq, if_neg (by omega), if_neg (by omega : ¬ w = -1)]
 generalize hw2 : told w (told (own e) 32) = w2
 have ho := own_eq e
 obtain ⟨op, ew, v, sig, hi, lo, n, l⟩ := e
 rcases shape_inv hs with h | h | h | h | h | h | h | h <;> simp only at h ho ⊢
 ·obtain ⟨rfl, rfl, h3, h4, rfl, rfl, rfl, rfl⟩ := h
  by_cases h0 : ew = 0
  ·subst h0
   cases hh : holds w2 v <;> simp [sizedM, hh]
  ·simp only [sizedM, wantedL, ho]
   by_cases h5 : ew = w2
   ·subst h5; simp [h0, sizeE.sizeL]
   ·simp [h0, h5]
 ·obtain ⟨rfl, rfl, h3⟩ := h
  simp only [sizedM, wantedL, underM]
  by_cases h5 : own ⟨2, ew, v, sig, hi, lo, n, []⟩ = w2 <;> simp [h5, sizeE.sizeL]
 ·obtain ⟨rfl, h2⟩ := h
  simp only [sizedM, wantedL, underM]
  by_cases h5 : own ⟨3, ew, v, sig, hi, lo, n, l⟩ = w2
  ·simp [h5, h2]
   cases sizeE.sizeL l [0] <;> first | rfl | simp
  ·simp [h5]
 ·obtain ⟨rfl, h2, h3, h4⟩ := h
  have hw4 : wantedL ⟨4, ew, v, sig, hi, lo, n, l⟩ w2 = (if n ≤ 2 then some [w2] else if w2 ≠ 1 then none else if n = 6 then some [-1] else some [0]) := by
   unfold wantedL
   simp only [h2]
   repeat' split
   all_goals first | rfl | (exfalso; omega) | (exfalso; simp_all; done) | (exfalso; simp_all; omega)
  rw [hw4]
  by_cases h5 : n ≤ 2
  ·simp [sizedM, unaryM, underM, h5]; cases sizeE.sizeL l [w2] <;> first | rfl | simp
  ·by_cases h7 : w2 = 1
   ·by_cases h6 : n = 6
    ·simp [sizedM, unaryM, underM, h6, h7]; cases sizeE.sizeL l [-1] <;> first | rfl | simp
    ·simp [sizedM, unaryM, underM, h5, h6, h7]; cases sizeE.sizeL l [0] <;> first | rfl | simp
   ·simp [sizedM, unaryM, underM, h5, h7]
 ·obtain ⟨rfl, h2, h3, h4⟩ := h
  have hw5 : wantedL ⟨5, ew, v, sig, hi, lo, n, l⟩ w2 = (if n ≤ 16 then some [w2, w2] else if n ≤ 18 then some [w2, 0] else if w2 ≠ 1 then none else if 25 ≤ n then some [-1, -1] else some [told (own.fst l) 32, told (own.fst l) 32]) := by
   unfold wantedL
   simp only [h2]
   repeat' split
   all_goals first | rfl | (exfalso; omega) | (exfalso; simp_all; done) | (exfalso; simp_all; omega)
  rw [hw5]
  by_cases h5 : n ≤ 16
  ·simp [sizedM, binaryM, underM, h5]; cases sizeE.sizeL l [w2, w2] <;> first | rfl | simp
  ·by_cases h6 : n ≤ 18
   ·simp [sizedM, binaryM, underM, h5, h6]; cases sizeE.sizeL l [w2, 0] <;> first | rfl | simp
   ·by_cases h8 : w2 = 1
    ·by_cases h7 : 25 ≤ n
     ·simp [sizedM, binaryM, underM, h5, h6, h7, h8]; cases sizeE.sizeL l [-1, -1] <;> first | rfl | simp
     ·simp [sizedM, binaryM, underM, h5, h6, h7, h8]; cases sizeE.sizeL l _ <;> first | rfl | simp
    ·simp [sizedM, binaryM, underM, h5, h6, h8]
 ·obtain ⟨rfl, h2⟩ := h
  simp only [sizedM, wantedL, underM, h2]
  simp [List.replicate]
  cases sizeE.sizeL l [-1, w2, w2] <;> first | rfl | simp
 ·obtain ⟨rfl, h2⟩ := h
  simp only [sizedM, wantedL, underM]
  by_cases h5 : own ⟨7, ew, v, sig, hi, lo, n, l⟩ = 0 ∨ own ⟨7, ew, v, sig, hi, lo, n, l⟩ ≠ w2 ∨ 64 < own ⟨7, ew, v, sig, hi, lo, n, l⟩
  ·simp [h5]
  ·simp [h5]
   cases sizeE.sizeL l _ <;> first | rfl | simp
 ·obtain ⟨rfl, h2, h3, h4, h5, h6⟩ := h
  simp only [sizedM, wantedL, extM, underM, ho, h2]
  by_cases h7 : ew = w2
  ·subst h7
   simp
   cases sizeE.sizeL l [0] with
   | error f => simp
   | ok y =>
    simp only
    by_cases hc : n = 33
    ·subst hc; simp
    ·simp [hc]
  ·simp [h7]

/-! ### statements, sized: the first error stays -/
theorem accum_append {α β σ : Type} (f : σ → α → β × σ) (l r : List α) : ∀ s, accum f s (l ++ r) = ((accum f s l).1 ++ (accum f (accum f s l).2 r).1, (accum f (accum f s l).2 r).2) := by
 induction l with
 | nil => intro s; rfl
 | cons y l ih => intro s; simp only [List.cons_append, accum, ih]
theorem accum_stays {α β : Type} (f : Int → α → β × Int) (l : List α) (hf : ∀ x ∈ l, ∀ s, s ≠ 0 → (f s x).2 = s) (s : Int) (hs : s ≠ 0) : (accum f s l).2 = s := by
 induction l with
 | nil => rfl
 | cons x l ih =>
  simp only [accum]
  rw [hf x (by simp) s hs]
  exact ih fun y hy => hf y (by simp [hy])
theorem accum_stop {α β : Type} (f : Int → α → β × Int) (l : List α) (hf : ∀ x ∈ l, ∀ s, s ≠ 0 → (f s x).2 = s) (s : Int) (k : Nat) (h : (accum f s (l.take k)).2 ≠ 0) : (accum f s l).2 = (accum f s (l.take k)).2 := by
 have e := accum_append f (l.take k) (l.drop k) s
 rw [List.take_append_drop] at e
 rw [e]
 exact accum_stays f _ (fun x hx => hf x (List.mem_of_mem_drop hx)) _ h
theorem szE_err (e : E) (w s : Int) (h : s ≠ 0) : (szE s e w).2 = s := by unfold szE; rw [if_pos h]
theorem szEs_err (w s : Int) (l : List E) (h : s ≠ 0) : (szEs s w l).2 = s := accum_stays _ l (fun x _ s h => szE_err x w s h) s h
theorem szT_err (ls : List Signal) (ck : Bool) (t : T) : ∀ lab s : Int, s ≠ 0 → (szT ls ck t lab s).2 = s := by
 induction t using T.ind with
 | h t ih =>
  intro lab s h
  rw [szT_eq]
  have h0 : szErr0 ls ck t s = s := by unfold szErr0; rw [if_neg (fun h' => h h'.2.1)]
  rw [h0, szEs_err _ _ _ h]
  exact accum_stays _ _ (fun x hx s h => ih x hx _ s h) s h
theorem szTL_err (ls : List Signal) (ck : Bool) (l : List T) (lab s : Int) (h : s ≠ 0) : (szTL ls ck lab s l).2 = s := accum_stays _ l (fun x _ s h => szT_err ls ck x lab s h) s h
theorem szTL_stop (ls : List Signal) (ck : Bool) (l : List T) (lab s : Int) (k : Nat) (h : (szTL ls ck lab s (l.take k)).2 ≠ 0) : (szTL ls ck lab s l).2 = (szTL ls ck lab s (l.take k)).2 :=
 accum_stop _ l (fun x _ s h => szT_err ls ck x lab s h) s k h
theorem szEs_stop (w s : Int) (l : List E) (k : Nat) (h : (szEs s w (l.take k)).2 ≠ 0) : (szEs s w l).2 = (szEs s w (l.take k)).2 := accum_stop _ l (fun x _ s h => szE_err x w s h) s k h
theorem szPs_stop (ls : List Signal) (s : Int) (l : List Proc) (k : Nat) (h : (szPs ls s (l.take k)).2 ≠ 0) : (szPs ls s l).2 = (szPs ls s (l.take k)).2 :=
 accum_stop (fun s (p : Proc) => ((⟨p.clocked, (szTL ls p.clocked 0 s p.l).1⟩ : Proc), (szTL ls p.clocked 0 s p.l).2)) l (fun x _ s h => szTL_err ls x.clocked x.l 0 s h) s k h
theorem szCs_err (l : List Chk) (s : Int) (h : s ≠ 0) : (szCs s l).2 = s := accum_stays (fun s (c : Chk) => ((⟨c.name, (szE s c.e (-1)).1⟩ : Chk), (szE s c.e (-1)).2)) l (fun x _ s h => szE_err x.e (-1) s h) s h
theorem szCs_stop (s : Int) (l : List Chk) (k : Nat) (h : (szCs s (l.take k)).2 ≠ 0) : (szCs s l).2 = (szCs s (l.take k)).2 := accum_stop (fun s (c : Chk) => ((⟨c.name, (szE s c.e (-1)).1⟩ : Chk), (szE s c.e (-1)).2)) l (fun x _ s h => szE_err x.e (-1) s h) s k h

theorem accum_congr {α β σ : Type} (f g : σ → α → β × σ) (l : List α) (h : ∀ x ∈ l, ∀ s, f s x = g s x) : ∀ s, accum f s l = accum g s l := by
 induction l with
 | nil => intro s; rfl
 | cons x l ih => intro s; simp only [accum, h x (by simp), ih (fun y hy => h y (by simp [hy]))]
/-- a label's width is asked by arms alone -/
theorem szT_lab (ls : List Signal) (ck : Bool) (t : T) : shapeT ls t = true → ∀ a b s : Int, szT ls ck t a s = szT ls ck t b s := by
 induction t using T.ind with
 | h t ih =>
  intro ht a b s
  have hl : ∀ l : List T, (∀ x ∈ l, x ∈ t.l) → l.all (shapeT ls) = true → ∀ s, szTL ls ck a s l = szTL ls ck b s l := by
   intro l hm ha s
   exact accum_congr _ _ _ (fun x hx s => ih x (hm x hx) (List.all_eq_true.1 ha x hx) a b s) s
  rw [szT_eq, szT_eq]
  rw [shapeT_eq] at ht
  split at ht
  ·cases ht
  ·split at ht
   ·rename_i h3
    have hw : szW t a = szW t b := by unfold szW; rw [if_neg (by omega), if_neg (by omega), if_pos h3, if_neg (by omega), if_neg (by omega), if_pos h3]
    rw [if_pos h3, if_pos h3, hw]
   ·split at ht
    ·rename_i h3 h1
     have hw : szW t a = szW t b := by unfold szW; rw [if_pos h1, if_pos h1]
     simp only [Bool.and_eq_true, decide_eq_true_eq] at ht
     have hn : t.l = [] := List.eq_nil_of_length_eq_zero ht.1.2
     rw [if_neg h3, if_neg h3, hw, hn]; rfl
    ·split at ht
     ·rename_i h3 h1 h2
      have hw : szW t a = szW t b := by unfold szW; rw [if_neg h1, if_pos h2, if_neg h1, if_pos h2]
      rw [Bool.and_eq_true] at ht
      rw [if_neg h3, if_neg h3, hw, hl t.l (fun _ h => h) ht.2]
     ·split at ht
      ·rename_i h3 h1 h2 h5
       simp only [Bool.and_eq_true, decide_eq_true_eq] at ht
       have hn : t.e = [] := List.eq_nil_of_length_eq_zero ht.1
       have e0 : ∀ w s, szEs s w [] = ([], s) := fun _ _ => rfl
       rw [if_neg h3, if_neg h3, hn, e0, e0, hl t.l (fun _ h => h) ht.2]
      ·cases ht
theorem szTL_lab {ls : List Signal} {ck : Bool} {l : List T} (h : l.all (shapeT ls) = true) (a b s : Int) : szTL ls ck a s l = szTL ls ck b s l :=
 accum_congr _ _ _ (fun x hx s => szT_lab ls ck x (List.all_eq_true.1 h x hx) a b s) s
end Go.Proofs.YthpemngachlehaaGreat
