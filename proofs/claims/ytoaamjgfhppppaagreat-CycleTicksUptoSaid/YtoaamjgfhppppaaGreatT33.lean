/- Laws and walks that a claim of this seat leans on: LiftE. -/
import Derived.Test.YtoaamjgfhppppaaGreatT32
import Derived.Test.YtoaamjgfhppppaaGreatT20
import Derived.Test.YtoaamjgfhppppaaGreatT00
set_option maxRecDepth 100000
set_option maxHeartbeats 8000000
set_option linter.all false
namespace Go.Proofs.YtoaamjgfhppppaaGreat
open Go.RowKit
section
variable {H:Type} {enc:TypeId × Value->H} {w:World}
theorem lift_U64s (m:Nat):∀ cs x,DataW.trod enc Tryz.prog w 0 (fun _=>true) true m 27 cs=some x->∃ (s:Value) (vs:List Nat),cs=[s]/\Us w s vs/\us64 vs/\vs.length+1<=Rows.uptoBulk x.1:=by
 intro cs x h
 obtain ⟨s,l,e,hs,hok,-,hln⟩:=lift_slice (At:=UAt w) (ok:=fun n:Nat=>n<18446744073709551616) (ms:=fun _=>0) Tryz.underlying27 cells_u64 (by decide) h (fun k hk cs x b o hh hx=>by
  obtain ⟨n,rfl,h1,h2⟩:=lift_u64 hx
  obtain ⟨j,rfl⟩:=Int.eq_ofNat_of_zero_le h1
  exact ⟨j,hh,by omega,Nat.zero_le _⟩)
 exact ⟨s,l,e,hs,hok,hln⟩
end
end Go.Proofs.YtoaamjgfhppppaaGreat
