/- Laws and walks that a claim of this seat leans on: Lint. -/
import Derived.Test.YtoaamjgfhppppaaGreatTLook
import Derived.Test.YtoaamjgfhppppaaGreatT00
set_option maxRecDepth 100000
set_option maxHeartbeats 8000000
set_option linter.all false
namespace Go.Proofs.YtoaamjgfhppppaaGreat
open Go.RowKit
/-! ### lint.Order, lint.Check -/
theorem Order_calls (d:Flat) (v:Value) (w:World) (h:FlatV w v d) (hok:d.ok) :
  Calls Tryz.prog 12 #[v] w fun r w'=>∃ ov,r=.returned (.tuple #[ov,.int .i64 (lookM d).1])/\IntRow w.heap.size ov (lookM d).2.2 w'/\Ext w w':=by
 have HF:=Jh h
 obtain ⟨sv,pv,cv,rfl,hS,hP,hC⟩:=h
 have hx:=ext_alloc w (.cells [sv,pv,cv].toArray 26)
 have hb:=Blk.new w [sv,pv,cv].toArray 26
 have HX:=Jh hx
 have HL:=Jh (look_calls d _ _ (HF.out.ext hx) hok)
 obtain ⟨lk,hlk⟩:∃ lk,lookM d=lk:=⟨_,rfl⟩
 rw [hlk] at HL ⊢
 clear hS hP hC hlk
 go_enter Tryz.func12,Tryz.ntmps12
 go_upto_region 1 with fail
 generalize w.alloc _=w1 at *
 go_wp2_with (first | ((with_reducible show Jl 26);refine Jm 26 (hb.has) agg_Flat rfl ?_) | (go_at_call 40;refine HL.out.mono ?_;rintro r w2 ⟨gv,ov,rfl,wg,hg2,hxg,hxh,hr2⟩;have hx2:=hxg.trans hxh))
 refine bodyPost_ret (v:=.tuple #[ov,.int .i64 lk.1]) (by simp [results,Tryz.results12,go_sem]) rfl ⟨ov,rfl,hr2.less (HX.out.trans hxg).size,HX.out.trans hx2⟩
theorem LCheck_calls (d:Flat) (v:Value) (w:World) (h:FlatV w v d) (hok:d.ok) :
  Calls Tryz.prog 20 #[v] w fun r w'=>r=.returned (.int .i64 (lookM d).1)/\Ext w w':=by
 have HF:=Jh h
 obtain ⟨sv,pv,cv,rfl,hS,hP,hC⟩:=h
 have hx:=ext_alloc w (.cells [sv,pv,cv].toArray 26)
 have hb:=Blk.new w [sv,pv,cv].toArray 26
 have HX:=Jh hx
 have HL:=Jh (look_calls d _ _ (HF.out.ext hx) hok)
 obtain ⟨lk,hlk⟩:∃ lk,lookM d=lk:=⟨_,rfl⟩
 rw [hlk] at HL ⊢
 clear hS hP hC hlk
 go_enter Tryz.func20,Tryz.ntmps20
 go_upto_region 1 with fail
 generalize w.alloc _=w1 at *
 go_wp2_with (first | ((with_reducible show Jl 26);refine Jm 26 (hb.has) agg_Flat rfl ?_) | (go_at_call 40;refine HL.out.mono ?_;rintro r w2 ⟨gv,ov,rfl,wg,hg2,hxg,hxh,hr2⟩;have hx2:=hxg.trans hxh))
 go_ret
 exact ⟨rfl,HX.out.trans hx2⟩
/-! ### lint.Levels -/
def ckL:Nat->List Proc->List Int
 | _,[]=>[]
 | p,x::l=>if x.clocked=true then (p:Int)::ckL (p+1) l else ckL (p+1) l
def levD (d:Flat):Int × List Int :=
 if (lookM d).1≠0 then ((lookM d).1,[]) else (0,levs (lookM d).2.1 ((lookM d).2.2++ckL 0 d.procs) (List.replicate (lookM d).2.1.length 0))
theorem ckL_mem (l:List Proc):∀ p,∀ q∈ckL p l,(p:Int)<=q/\q<((p+l.length:Nat):Int):=by
 induction l with
 | nil=>intro p q h;cases h
 | cons x l ih =>
  intro p q hq
  rw [ckL] at hq
  split at hq
  ·rcases List.mem_cons.1 hq with e | hq
   ·rw [e];simp only [List.length_cons];omega
   ·have:=ih (p+1) q hq;simp only [List.length_cons];omega
  ·have:=ih (p+1) q hq;simp only [List.length_cons];omega
theorem lookM_zero {d:Flat} (hok:d.ok) (h:(lookM d).1=0):checkM d=0/\∃ by',drvD d=(0,by')/\drvM (nBits d).toNat (wsM d)=some by'/\noneF d.signals by' 0 d.signals=false/\latF d 0 d.procs=false /\
  (lookM d).2.1=graphM d by'/\(lookM d).2.2=ordM (graphM d by') (clks d)/\wiresM (clks d)<=(ordM (graphM d by') (clks d)).length:=by
 rcases drvD_cases d with ⟨e,hd,he⟩ | ⟨hck,by',hd,hdm⟩
 ·rw [lookM_err hd he] at h;exact absurd h he
 ·refine ⟨hck,by',hd,hdm,?_⟩
  rw [lookM_ok hd] at h ⊢
  by_cases h1:noneF d.signals by' 0 d.signals=true
  ·rw [if_pos h1] at h;exact absurd h (by decide)
  ·rw [if_neg h1] at h ⊢
   unfold lookT at h ⊢
   by_cases h2:latF d 0 d.procs=true
   ·rw [if_pos h2] at h;exact absurd h (by decide)
   ·rw [if_neg h2] at h ⊢
    by_cases h3:(ordM (graphM d by') (clks d)).length<wiresM (clks d)
    ·rw [if_pos h3] at h;exact absurd h (by decide)
    ·rw [if_neg h3]
     exact ⟨by simpa using h1,by simpa using h2,rfl,rfl,by omega⟩
end Go.Proofs.YtoaamjgfhppppaaGreat
