/- Laws and walks that a claim of this seat leans on: Few13. -/
import Derived.Test.YtoaamjgfhppppaaGreatYFew11
import Derived.Test.YtoaamjgfhppppaaGreatY27
import Derived.Test.YtoaamjgfhppppaaGreatY00
set_option maxRecDepth 100000
set_option maxHeartbeats 8000000
set_option linter.all false
namespace Go.Proofs.YtoaamjgfhppppaaGreat
open Go.RowKit
def few13 (d:Flat) (vs:List Nat):Bool:=few11 d&&decide ((vs.length:Int)<=100)
theorem few13_calls (d:Flat) (v:Value) (vs:List Nat) (s:Value) (w:World) (hF:FlatV w v d) (hok:d.ok) (hs:Us w s vs) :
  Calls Tryz.prog 18 #[v,s] w fun r w'=>r=.returned (.bool (few13 d vs))/\Ext w w':=by
 have HFW:=Jh (fun W (h:Ext w W)=>Few_calls d v W (hF.ext h) hok.nodes hok.signals hok.procs)
 obtain ⟨sv,pv,cv,rfl,hS,hP,hC⟩:=hF
 obtain ⟨av,bv,ov,capv,rfl,-,-,-,-⟩:=hs.open
 have x1:=ext_alloc w (.cells [sv,pv,cv].toArray 26)
 have hD:=Blk.new w [sv,pv,cv].toArray 26
 clear hS hP hC hok hs
 obtain ⟨t,ht⟩:∃ t,few13 d vs=t:=⟨_,rfl⟩
 have HT:=Jh ht
 rw [ht]
 clear ht
 go_enter Tryz.func18,Tryz.ntmps18
 go_upto_region 1 with fail
 generalize w.alloc _=w0 at *
 have HX0:=Jh x1
 have d1:=hD.has
 clear x1 hD
 obtain ⟨fw,hfw⟩:∃ fw,few11 d=fw:=⟨_,rfl⟩
 unfold few13 at HT
 rw [hfw] at HFW HT
 clear hfw
 cases fw
 ·obtain rfl:t=false:=HT.out.symm
  go_wp2_with (first | ((with_reducible show Jl 26);refine Jm 26 (d1) agg_Flat rfl ?_) | (go_at_call 45;refine (HFW.out w0 HX0.out).mono ?_;rintro r w2 ⟨rfl,hx2⟩))
  go_ret
  exact ⟨rfl,HX0.out.trans hx2⟩
 have ht:decide ((vs.length:Int)<=100)=t:=HT.out
 go_wp2_with (first | ((with_reducible show Jl 26);refine Jm 26 (d1) agg_Flat rfl ?_) | (go_at_call 45;refine (HFW.out w0 HX0.out).mono ?_;rintro r w2 ⟨rfl,hx2⟩))
 go_ret
 exact ⟨rfl,HX0.out.trans hx2⟩
end Go.Proofs.YtoaamjgfhppppaaGreat
