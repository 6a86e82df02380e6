/- Laws and walks that a claim of this seat leans on: Writes. -/
import Derived.Test.YtemabheegnngdaaGreatU12
import Derived.Test.YtemabheegnngdaaGreatU00
set_option linter.all false
namespace Go.Proofs.YtemabheegnngdaaGreat
open Go.RowKit
/-! ### stmt.Writes$1: the bits that statements write -/
def wS (ts:List T) (n:Nat):List Span:=((ts.take n).filter (fun t=>t.op == 1)).map ownS
theorem Eaches.len {wb:World} {ts:List T} {xs:List (List Value)} (h:Eaches wb ts xs):xs.length=ts.length:=by
 induction ts generalizing xs with
 | nil=>cases xs with
  | nil=>rfl
  | cons _ _=>exact h.elim
 | cons t ts ih=>cases xs with
  | nil=>exact h.elim
  | cons x xs=>simp [ih h.2]
theorem Eaches.at {wb:World} {ts:List T} {pre:List (List Value)} {x:List Value} {post:List (List Value)} (h:Eaches wb ts (pre ++ x :: post)):∃ t,ts[pre.length]? = some t∧VT wb x t:=by
 induction pre generalizing ts with
 | nil=>cases ts with
  | nil=>exact h.elim
  | cons t ts=>exact ⟨t,rfl,h.1⟩
 | cons y pre ih=>cases ts with
  | nil=>exact h.elim
  | cons t ts =>
   obtain ⟨t',h1,h2⟩:=ih h.2
   exact ⟨t',by simpa using h1,h2⟩
theorem own_rowI {A B:World} {N M:Nat} {v:Value} {l:List Int} {row:Option Nat} (h:IntRow N v l A) (hg:A.grownBy B row) (hr:∀ r,row=some r→M ≤ r∧∃ o:Obj,A.heap[r]? = some o∧o.isCells=false):IntRow N v l B :=
 h.grown hg fun k hk e=>by
  obtain ⟨-,o,ho,hc⟩:=hr k e.symm
  obtain ⟨-,cur,hcur⟩:=h.at hk
  rw [hcur] at ho;cases ho;cases hc
end Go.Proofs.YtemabheegnngdaaGreat
