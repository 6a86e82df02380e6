/- Shorter names for laws of lists, and for an operation that is taken first. -/
import Derived.Deep.RegionHeld3
import Derived.Deep.WholeRow
import Derived.Handy
import Derived.Lib.Hide
import Derived.WalkKit
set_option linter.all false
namespace Go.Proofs.YtbliplladmamoaaGreat
open Go.RowKit
theorem Ja {α : Type} {l : List α} {i : Nat} {a : α} : l.toArray.setIfInBounds i a = (l.set i a).toArray := List.setIfInBounds_toArray l i a
theorem Jb {α : Type} {a : α} {l : List α} {h : 0 < (a :: l).length} : (a :: l)[0] = a := List.getElem_cons_zero a l h
theorem Jc {α : Type} {a : α} {l : List α} {i : Nat} {h : i + 1 < (a :: l).length} : (a :: l)[i + 1] = l[i]'(Nat.lt_of_succ_lt_succ h) := List.getElem_cons_succ a l i h
theorem Jd {α : Type} {xs : List α} {i : Nat} (h : i < xs.toArray.size) : xs.toArray[i] = xs[i]'(by simpa using h) := List.getElem_toArray h
theorem Je {α : Type} {x y : α} {xs : List α} : (x :: xs).set 0 y = y :: xs := List.set_cons_zero
theorem Jf {α : Type} {x y : α} {xs : List α} {i : Nat} : (x :: xs).set (i + 1) y = x :: xs.set i y := List.set_cons_succ
theorem Jt {P : Program} {md : Region.Mode} {ops : Array Oper} {Q : Exit → Act → World → Prop} {S : World → Prop} (i : Nat) (v : Value) {oi : Oper} {fuel : Nat} {listed : Array Bool} {a : Act} {w : World} (hi : ops[i]? = some oi)
    (hy : YieldsIf P ops S oi v a) (hS : S w) (h : wpAnyH P md ops Q S fuel (listed.setIfInBounds i true) (a.put oi.dst v) w)
    (hs : Region.noSelect ops = true := by kernel_rfl) (hf : Region.free md ops listed i = true := by kernel_rfl) (hr : (Region.ready md ops listed).contains i = true := by kernel_rfl)
    (hQ : ∀ c a w, Q (.panic c) (a.put oi.dst v) w → Q (.panic c) a w := by exact fun _ _ _ h => h) : wpAnyH P md ops Q S (fuel + 1) listed a w :=
  wpAnyH_take hi hs hf hr hQ hy hS h
abbrev Jw {P : Program} {ops : Array Oper} {Q : Exit → Act → World → Prop} {d t p f g} {r : List Oper} {a : Act} {w : World} (o : Op) := wpList P ops Q (⟨d, o, t, p, f, g⟩ :: r) a w
theorem J : (∀ (l : List Value) (ds : _) (i : Nat) (v : Value), Act.put ⟨l.toArray, ds⟩ (some i) v = ⟨(l.set i v).toArray, ds⟩) ∧ (∀ (a : Act) (v : Value), a.put none v = a) ∧ (∀ {α : Type} {l : List α} {i : Nat} {a : α}, l.toArray.setIfInBounds i a = (l.set i a).toArray) ∧ (∀ {α : Type} {a : α} {l : List α} {h : 0 < (a :: l).length}, (a :: l)[0] = a) ∧
    (∀ {α : Type} {a : α} {l : List α} {i : Nat} {h : i + 1 < (a :: l).length}, (a :: l)[i + 1] = l[i]'(Nat.lt_of_succ_lt_succ h)) ∧ (∀ {α : Type} {xs : List α} {i : Nat} (h : i < xs.toArray.size), xs.toArray[i] = xs[i]'(by simpa using h)) ∧
    (∀ {α : Type} {x y : α} {xs : List α}, (x :: xs).set 0 y = y :: xs) ∧ (∀ {α : Type} {x y : α} {xs : List α} {i : Nat}, (x :: xs).set (i + 1) y = x :: xs.set i y) :=
  ⟨fun l ds i v => by show (⟨l.toArray.setIfInBounds i v, ds⟩ : Act) = _; rw [List.setIfInBounds_toArray], fun _ _ => rfl, Ja, Jb, Jc, Jd, Je, Jf⟩
theorem Jh {p : Prop} (h : p) : Hid p := Lib.hid h
theorem Jr {P : Program} {md : Region.Mode} {ops : Array Oper} {Q : Exit → Act → World → Prop} {S : World → Prop} (i : Nat) {o : Oper} {fuel : Nat} {listed : Array Bool} {a : Act} {w : World} (ho : ops[i]? = some o)
    (h : ∀ K : Act → World → Prop, Shut (∀ a w, S w → (S w → wpAnyH P md ops Q S fuel (listed.setIfInBounds i true) a w) → K a w) → if Region.wanted o (yielded ops a.tmps) = true then Oper.wp P o a w K Q else K (a.put o.dst undef) w)
    (hr : Region.ready md ops listed = [i] := by kernel_rfl) : wpAnyH P md ops Q S (fuel + 1) listed a w := wpAnyH_ready hr (by simp) (AllReadyH.cons ho h AllReadyH.nil)
theorem Jz {P : Program} {md : Region.Mode} {ops : Array Oper} {Q : Exit → Act → World → Prop} {S : World → Prop} {listed : Array Bool} {a : Act} {w : World} {fuel : Nat} (hq : Q .normal a w) (hr : Region.ready md ops listed = [] := by kernel_rfl) : wpAnyH P md ops Q S fuel listed a w := wpAnyH_done hr hq fuel
abbrev Jl {P : Program} {ops : Array Oper} {Q : Exit → Act → World → Prop} {d t p f g x} {r : List Oper} {a : Act} {w : World} (T : TypeId) := wpList P ops Q (⟨d, .load T x, t, p, f, g⟩ :: r) a w
abbrev Js {P : Program} {ops : Array Oper} {Q : Exit → Act → World → Prop} {d t p f g x y} {r : List Oper} {a : Act} {w : World} (T : TypeId) := wpList P ops Q (⟨d, .store T x y, t, p, f, g⟩ :: r) a w
end Go.Proofs.YtbliplladmamoaaGreat
