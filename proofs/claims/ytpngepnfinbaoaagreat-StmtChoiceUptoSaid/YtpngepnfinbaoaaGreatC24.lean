/- Laws and walks that a claim of this seat leans on: With. -/
import Derived.Test.YtpngepnfinbaoaaGreatC21
import Derived.Test.YtpngepnfinbaoaaGreatCFew11
import Derived.Test.YtpngepnfinbaoaaGreatC03
import Derived.Test.YtpngepnfinbaoaaGreatC00
set_option maxRecDepth 100000
set_option maxHeartbeats 8000000
set_option linter.all false
namespace Go.Proofs.YtpngepnfinbaoaaGreat
open Go.RowKit
/-! with -/
theorem with_callsB {ls:List Signal} {sg pv cv lv:Value} {ck:Bool} {l:List T} {w:World} (hS:Sigs w sg ls) (ho1:pv.oneCell'=true) (ho2:cv.oneCell'=true) (hL:Ts w lv l) :
  Calls Tryz.prog 6 #[.agg #[sg,pv,cv],.bool ck,lv] w fun r w'=>∃ B,r=.returned (.agg #[sg,.slice (some ⟨B,0,none⟩) 1 1,.slice none 0 0])/\Blk w' B #[.bool ck,lv] 36/\Ext w w':=by
 have hX:=ext_alloc w (.cells [sg,pv,cv].toArray 26)
 have hD:=Blk.new w [sg,pv,cv].toArray 26
 obtain ⟨a0,b0,o0,c0,rfl,-,-,-,-⟩:=hS.open
 obtain ⟨al,bl,ol,cl,rfl,-,-,-,-⟩:=hL.open
 have hx2:=ext_alloc (w.alloc (.cells [.slice a0 ls.length c0,pv,cv].toArray 26)) (.cells #[.slice none 0 0,.slice none 0 0,.slice none 0 0] 26)
 have hb2:=Blk.new (w.alloc (.cells [.slice a0 ls.length c0,pv,cv].toArray 26)) #[.slice none 0 0,.slice none 0 0,.slice none 0 0] 26
 simp only [World.size_alloc] at hb2
 have hX2:=hX.trans hx2
 have d0:=(hD.ext hx2).has 0 _ rfl
 clear hS hL hD hX hx2
 go_enter Tryz.func6,Tryz.ntmps6
 go_upto_region 1 with fail
 generalize (w.alloc _).alloc _=w2 at *
 go_wp2_with ((with_reducible show Jw (Op.buildSlice _ _ _));refine Hid.out ?_)
 refine Jh ?_
 refine wpList_bs1 rfl _ _ rfl appProc rfl (cs:=[.bool ck,.slice al l.length cl]) rfl rfl (by decide) ?_
 have hx3:=ext_alloc w2 (.cells [.bool ck,.slice al l.length cl].toArray 36)
 have hb3:=Blk.new w2 [.bool ck,.slice al l.length cl].toArray 36
 have hX3:=hX2.trans hx3
 have hbp:=hb2.ext hx3
 have hz2:=hb2.lt
 generalize w2.alloc _=w3 at *
 obtain ⟨B2,hB2⟩:∃ B2,w2.heap.size=B2:=⟨_,rfl⟩
 rw [hB2] at hb3 hz2 ⊢
 clear hB2
 go_wp2_with ((with_reducible show Js 26);refine wpList_store_blk rfl 26 _ _ rfl hbp rfl (cs:=[.slice a0 ls.length c0,.slice (some ⟨B2,0,none⟩) 1 1,.slice none 0 0]) rfl agg_Flat rfl rfl (by simp [Value.oneCell']) ?_;intro w5 hb5 hg5)
 have hX5:Ext w w5:=Ext.grown hX3 hg5 (by omega)
 have hb35:=hb3.grown hg5 (by omega)
 refine post_ret_blk rfl rfl hb5.has agg_Flat rfl rfl ⟨_,rfl,hb35,hX5⟩
theorem ok_sub {d:Flat} (hok:d.ok) (ck:Bool) (l:List T) (hw:∀ t∈l,t.wf) (hn:sumBy nodesT l<=1048576):Flat.ok ⟨d.signals,[⟨ck,l⟩],[]⟩ where
 wf:={ signals:=hok.wf.signals,procs:=fun p hp t ht=>by obtain rfl:=List.mem_singleton.1 hp;exact hw t ht,checks:=fun c hc=>by cases hc }
 nodes:=by rw [mNodes_eq];simp only [sumBy];omega
 signals:=hok.signals
 procs:=by show 1<=1048576;decide
 checks:=Nat.zero_le _
theorem few11_small {d:Flat} (h:few11 d=true):mNodes d<=2000:=by
 unfold few11 small at h
 simp only [Bool.and_eq_true,decide_eq_true_eq] at h
 exact h.1.1.1.1.1
end Go.Proofs.YtpngepnfinbaoaaGreat
