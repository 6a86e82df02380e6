/- Laws and walks that a claim of this seat leans on: Lint. -/
import Derived.Test.YtpdpgmfnfajbfaaGreatLLook
import Derived.Test.YtpdpgmfnfajbfaaGreatL00
set_option maxRecDepth 100000
set_option maxHeartbeats 8000000
set_option linter.all false
namespace Go.Proofs.YtpdpgmfnfajbfaaGreat
open Go.RowKit
/-! ### lint.Order, lint.Check -/
theorem Order_calls (d:Flat) (v:Value) (w:World) (h:FlatV w v d) (hok:d.ok) :
  Calls Tryz.prog 30 #[v] w fun r w'=>∃ ov,r=.returned (.tuple #[ov,.int .i64 (lookM d).1])/\IntRow w.heap.size ov (lookM d).2.2 w'/\Ext w w':=by
 have HF:=Jh h
 obtain ⟨sv,pv,cv,rfl,hS,hP,hC⟩:=h
 have hx:=ext_alloc w (.cells [sv,pv,cv].toArray 26)
 have hb:=Blk.new w [sv,pv,cv].toArray 26
 have HX:=Jh hx
 have HL:=Jh (look_calls d _ _ (HF.out.ext hx) hok)
 obtain ⟨lk,hlk⟩:∃ lk,lookM d=lk:=⟨_,rfl⟩
 rw [hlk] at HL ⊢
 clear hS hP hC hlk
 go_enter Tryz.func30,Tryz.ntmps30
 go_upto_region 1 with fail
 generalize w.alloc _=w1 at *
 go_wp2_with (first | ((with_reducible show Jl 26);refine Jm 26 (hb.has) agg_Flat rfl ?_) | (go_at_call 59;refine HL.out.mono ?_;rintro r w2 ⟨gv,ov,rfl,wg,hg2,hxg,hxh,hr2⟩;have hx2:=hxg.trans hxh))
 refine bodyPost_ret (v:=.tuple #[ov,.int .i64 lk.1]) (by simp [results,Tryz.results30,go_sem]) rfl ⟨ov,rfl,hr2.less (HX.out.trans hxg).size,HX.out.trans hx2⟩
theorem LCheck_calls (d:Flat) (v:Value) (w:World) (h:FlatV w v d) (hok:d.ok) :
  Calls Tryz.prog 18 #[v] w fun r w'=>r=.returned (.int .i64 (lookM d).1)/\Ext w w':=by
 have HF:=Jh h
 obtain ⟨sv,pv,cv,rfl,hS,hP,hC⟩:=h
 have hx:=ext_alloc w (.cells [sv,pv,cv].toArray 26)
 have hb:=Blk.new w [sv,pv,cv].toArray 26
 have HX:=Jh hx
 have HL:=Jh (look_calls d _ _ (HF.out.ext hx) hok)
 obtain ⟨lk,hlk⟩:∃ lk,lookM d=lk:=⟨_,rfl⟩
 rw [hlk] at HL ⊢
 clear hS hP hC hlk
 go_enter Tryz.func18,Tryz.ntmps18
 go_upto_region 1 with fail
 generalize w.alloc _=w1 at *
 go_wp2_with (first | ((with_reducible show Jl 26);refine Jm 26 (hb.has) agg_Flat rfl ?_) | (go_at_call 59;refine HL.out.mono ?_;rintro r w2 ⟨gv,ov,rfl,wg,hg2,hxg,hxh,hr2⟩;have hx2:=hxg.trans hxh))
 go_ret
 exact ⟨rfl,HX.out.trans hx2⟩
/-! ### lint.Levels -/
def ckL:Nat->List Proc->List Int
 | _,[]=>[]
 | p,x::l=>if x.clocked=true then (p:Int)::ckL (p+1) l else ckL (p+1) l
theorem ckL_step (d:Flat) (p:Nat) (h:p<d.procs.length):ckL p (d.procs.drop p)=if d.procs[p].clocked=true then (p:Int)::ckL (p+1) (d.procs.drop (p+1)) else ckL (p+1) (d.procs.drop (p+1)):=by
 rw [List.drop_eq_getElem_cons h,ckL]
def levD (d:Flat):Int × List Int :=
 if (lookM d).1≠0 then ((lookM d).1,[]) else (0,levs (lookM d).2.1 ((lookM d).2.2++ckL 0 d.procs) (List.replicate (lookM d).2.1.length 0))
theorem ckL_mem (l:List Proc):∀ p,∀ q∈ckL p l,(p:Int)<=q/\q<((p+l.length:Nat):Int):=by
 induction l with
 | nil=>intro p q h;cases h
 | cons x l ih =>
  intro p q hq
  rw [ckL] at hq
  split at hq
  ·rcases List.mem_cons.1 hq with e | hq
   ·rw [e];simp only [List.length_cons];omega
   ·have:=ih (p+1) q hq;simp only [List.length_cons];omega
  ·have:=ih (p+1) q hq;simp only [List.length_cons];omega
theorem ckL_length (l:List Proc):∀ p,(ckL p l).length<=l.length:=by
 induction l with
 | nil=>intro p;simp [ckL]
 | cons x l ih =>
  intro p
  rw [ckL]
  have:=ih (p+1)
  split<;>simp only [List.length_cons]<;>omega
theorem lookM_zero {d:Flat} (hok:d.ok) (h:(lookM d).1=0):checkM d=0/\∃ by',drvD d=(0,by')/\drvM (nBits d).toNat (wsM d)=some by'/\noneF d.signals by' 0 d.signals=false/\latF d 0 d.procs=false /\
  (lookM d).2.1=graphM d by'/\(lookM d).2.2=ordM (graphM d by') (clks d)/\wiresM (clks d)<=(ordM (graphM d by') (clks d)).length:=by
 rcases drvD_cases d with ⟨e,hd,he⟩ | ⟨hck,by',hd,hdm⟩
 ·rw [lookM_err hd he] at h;exact absurd h he
 ·refine ⟨hck,by',hd,hdm,?_⟩
  rw [lookM_ok hd] at h ⊢
  by_cases h1:noneF d.signals by' 0 d.signals=true
  ·rw [if_pos h1] at h;exact absurd h (by decide)
  ·rw [if_neg h1] at h ⊢
   unfold lookT at h ⊢
   by_cases h2:latF d 0 d.procs=true
   ·rw [if_pos h2] at h;exact absurd h (by decide)
   ·rw [if_neg h2] at h ⊢
    by_cases h3:(ordM (graphM d by') (clks d)).length<wiresM (clks d)
    ·rw [if_pos h3] at h;exact absurd h (by decide)
    ·rw [if_neg h3]
     exact ⟨by simpa using h1,by simpa using h2,rfl,rfl,by omega⟩
theorem Levels_calls (d:Flat) (v:Value) (w:World) (h:FlatV w v d) (hok:d.ok) :
  Calls Tryz.prog 57 #[v] w fun r w'=>∃ u,r=.returned (.tuple #[u,.int .i64 (levD d).1])/\IntRow w.heap.size u (levD d).2 w'/\Ext w w':=by
 have HF:=Jh h
 obtain ⟨sv,pv,cv,rfl,hS,hP,hC⟩:=h
 have HX:=Jh (ext_alloc w (.cells [sv,pv,cv].toArray 26))
 have HB:=Jh (Blk.new w [sv,pv,cv].toArray 26)
 have HL:=Jh (look_calls d _ _ (HF.out.ext HX.out) hok)
 have hln:=hok.procs
 obtain ⟨a0,b0,o0,c0,rfl,hc1,hc2,ha,hr⟩:=hP.open
 have HA:=Jh ha
 have HR:=Jh hr
 clear hS hP hC ha hr
 obtain ⟨res,hres⟩:∃ res,levD d=res:=⟨_,rfl⟩
 rw [hres]
 have HRES:=Jh hres
 clear hres
 go_enter Tryz.func57,Tryz.ntmps57
 go_upto_region 1 with fail
 have hs1:(w.alloc (.cells [sv,.slice a0 d.procs.length c0,cv].toArray 26)).heap.size=w.heap.size+1:=by simp
 generalize w.alloc _=w1 at *
 by_cases he:(lookM d).1=0
 ·obtain ⟨hck,by',hd,hdm,-,-,hG,hO,hwo⟩:=lookM_zero hok he
  have hbl:=drvD_len hok hck hdm
  have hgr:=graphM_range hok hck hbl.1 hbl.2
  have hgl:=graphM_length d by'
  have hres:=HRES.out
  unfold levD at hres
  rw [if_neg (by rw [he];decide),hG,hO] at hres
  have hl:=HL.out
  rw [he,hG,hO] at hl
  obtain ⟨G,hGG⟩:∃ G,graphM d by'=G:=⟨_,rfl⟩
  rw [hGG] at hl hres hgr hgl
  obtain ⟨o,hoo⟩:∃ o,ordM G (clks d)=o:=⟨_,rfl⟩
  have hospec:=orderM_spec G (clks d) (G.length+1) (List.replicate G.length false) [] (Ord.nil G (clks d)) (by have:=falses_le (List.replicate G.length false);simp at this;omega)
  rw [show orderM G (clks d) (G.length+1) (List.replicate G.length false) []=o from hoo] at hospec
  rw [hoo] at hl hres
  obtain ⟨come',hord,-⟩:=hospec
  have horr:∀ p∈o,0<=p/\p<G.length:=fun p hp=>⟨(hord.inr p hp).1,(hord.inr p hp).2.1⟩
  have hol:o.length<=G.length:=by
   have:=nodup_le o ((List.range G.length).map fun (k:Nat)=>(k:Int)) hord.nodup fun x hx=>by
    have:=horr x hx
    exact List.mem_map.2 ⟨x.toNat,List.mem_range.2 (by omega),by omega⟩
   simpa using this
  rw [hgl] at hres
  obtain ⟨tot,htot⟩:∃ tot,o++ckL 0 d.procs=tot:=⟨_,rfl⟩
  have hckl:=ckL_length d.procs 0
  have htl:tot.length<=2097152:=by rw [<-htot,List.length_append];omega
  have htr:∀ p∈tot,0<=p/\p<d.procs.length:=by
   intro p hp
   rw [<-htot] at hp
   rcases List.mem_append.1 hp with hp | hp
   ·have:=horr p hp;omega
   ·have:=ckL_mem _ _ p hp;omega
  rw [htot] at hres
  have HTOT:Hid (o++ckL 0 (d.procs.drop 0)=tot):=Jh htot
  have HRS:=Jh hres
  have HGR:=Jh hgr
  have HGL:=Jh hgl
  have HTR:=Jh htr
  have HL2:=Jh hl
  clear hck hd hdm hG hO hwo hbl hgr hgl hres hl hGG hoo hord horr hckl htot htr HRES HL he
  go_upto_region 4 with (first | ((with_reducible show Jl 26);refine Jm 26 (HB.out.has) agg_Flat rfl ?_) | (go_at_call 59;refine HL2.out.mono ?_;rintro r w2 ⟨gv,ov,rfl,wg,hg2,hxg,hxh,hr2⟩))
  have HXG:=Jh hxg
  have HXH:=Jh hxh
  have HG2:=Jh hg2
  have HR2:=Jh hr2
  have hx2:=hxg.trans hxh
  have y1:=(HB.out.ext hx2).has 1 _ rfl
  rw [Nat.zero_add] at y1
  obtain ⟨ag,bg,og,cg,rfl,hg1,hg2',hag,hgrw⟩:=hg2.open
  have hgl:=HGL.out
  rw [hgl] at hg1 hag HG2 ⊢
  have HAG:=Jh hag
  have HGW:=Jh hgrw
  have hwg:=hxg.size
  have hwh:=hxh.size
  clear hxg hxh hg2 hr2 hx2 hag hgrw hgl
  go_wp2_with fail
  refine wp_loop (fun a wr=>∃ (p:Nat) (u x7 x8 x27 x28 x29 x30 x31 x32 x33 x34 x35 x36 x37:Value),a=⟨#[.agg #[sv,.slice a0 d.procs.length c0,cv],.pointer (some ⟨w.heap.size,0,Option.none⟩),.slice Option.none 0 0,.int .i64 0,.slice ag d.procs.length cg,u,.int .i64 0,x7,x8,undef,undef,undef,undef,undef,.tuple #[.slice ag d.procs.length cg,ov,.int .i64 0],.agg #[sv,.slice a0 d.procs.length c0,cv],.tuple #[.slice ag d.procs.length cg,ov,.int .i64 0],.slice ag d.procs.length cg,ov,.int .i64 0,.int .i64 0,.bool false,undef,.pointer (some ⟨w.heap.size,1,Option.none⟩),.slice a0 d.procs.length c0,.int .i64 d.procs.length,.int .i64 (p:Int),x27,x28,x29,x30,x31,x32,x33,x34,x35,x36,x37,undef,undef,undef,undef,undef,undef,undef,undef,undef,undef,undef,undef,undef,undef,undef,undef,undef,undef,undef,undef,undef,undef,undef,undef,undef,undef,undef,undef,undef,undef,undef,undef,undef,undef],[]⟩ /\
   p<=d.procs.length/\∃ acc:List Int,Hid (acc++ckL p (d.procs.drop p)=tot)/\IntRow wg.heap.size u acc wr/\Ext wg wr) (fun a _=>d.procs.length-(intOf (a.tmps.getD 26 undef)).toNat)
   ⟨0,_,_,_,_,_,_,_,_,_,_,_,_,_,_,rfl,Nat.zero_le _,o,HTOT,HR2.out,HXH.out⟩ ?_
  clear HTOT HR2 HXH y1
  rintro a wr ⟨p,u,x7,x8,x27,x28,x29,x30,x31,x32,x33,x34,x35,x36,x37,rfl,hp,acc,HT,hru,hxr⟩
  have HRU:=Jh hru
  have HXR:=Jh hxr
  have hsr:=hxr.size
  clear hru hxr
  by_cases hlt:p<d.procs.length
  ·obtain rfl:=HA.out (by omega)
   obtain ⟨t1,hhas,hts⟩:=Procs.get HR.out hlt
   have ht1:=hts.one
   have hstep:=ckL_step d p hlt
   have HH1:=Jh (hhas.ext ((HX.out.trans HXG.out).trans HXR.out))
   have hx4:=ext_alloc wr (.cells (d.procs[p].cells t1).toArray 39)
   have hb4:=Blk.new wr (d.procs[p].cells t1).toArray 39
   have HX4:=Jh (HXR.out.trans hx4)
   have HR4:=Jh (HRU.out.ext hx4)
   have hs4:(wr.alloc (.cells (d.procs[p].cells t1).toArray 39)).heap.size=wr.heap.size+1:=by simp
   obtain ⟨pb,hpb⟩:∃ pb,d.procs[p].clocked=pb:=⟨_,rfl⟩
   have y0:=hb4.has 0 _ rfl
   rw [hpb] at y0 hstep
   have HST:=Jh hstep
   have HY0:=Jh y0
   generalize d.procs[p]=pr at *
   clear hstep hhas hts hpb y0 hb4 hx4
   go_upto_region 7 with (first | ((with_reducible show Jl 39);refine Jm 39 (HH1.out) agg_Proc rfl ?_) | ((with_reducible show Js 39);refine wpList_store_new rfl 39 _ _ rfl rfl (by first | rfl | simp) rfl agg_Proc (rfl) rfl (by simp [ht1,one_bool]) ?_))
   generalize wr.alloc _=w4 at *
   obtain ⟨B8,hB8⟩:∃ B8,wr.heap.size=B8:=⟨_,rfl⟩
   have y0:=HY0.out
   rw [hB8,Nat.zero_add] at y0
   rw [hB8] at hs4 hsr ⊢
   clear HY0 hB8 HXR HRU
   cases pb
   ·have HT2:Hid (acc++ckL (p+1) (d.procs.drop (p+1))=tot):=Jh (by have e:=HST.out;simp only [Bool.false_eq_true,if_false] at e;rw [<-e];exact HT.out)
    clear HT HST
    go_wp2_with fail
    first | exact ⟨⟨p+1,u,⟨rfl,by omega⟩,by omega,acc,HT2,HR4.out,HX4.out⟩,by simp [intOf];omega⟩ | exact ⟨⟨p+1,u,_,_,_,_,_,_,_,_,_,_,_,_,_,rfl,by omega,acc,HT2,HR4.out,HX4.out⟩,by simp [intOf];omega⟩
   ·have HT2:Hid ((acc++[(p:Int)])++ckL (p+1) (d.procs.drop (p+1))=tot):=Jh (by have e:=HST.out;simp only [if_true] at e;rw [List.append_assoc,List.singleton_append,<-e];exact HT.out)
    have hal:acc.length<=tot.length:=by
     have:=congrArg List.length HT.out
     rw [List.length_append] at this
     omega
    have HAL:Hid (acc.length+1<=1099511627776):=Jh (by omega)
    obtain ⟨au,cu,hu,-⟩:=HR4.out.open
    subst hu
    have hx5:=ext_alloc w4 (.cells [Value.int .i64 (p:Int)].toArray 3)
    have hb5:=Blk.new w4 [Value.int .i64 (p:Int)].toArray 3
    have hr5:=HR4.out.ext hx5
    have hX5:=HX4.out.trans hx5
    have HZ5:=Jh hX5.size
    clear HT HST hal hs4
    go_wp2_with (first | ((with_reducible show Jw (Op.buildSlice _ _ _));refine wpList_bs1 rfl _ _ rfl appInt rfl (cs:=[Value.int .i64 (p:Int)]) rfl rfl (by decide) ?_) | ((with_reducible show Jw (Op.call { callee:=.builtin .append,args:=_,argTypes:=_ }));refine Hid.out ?_))
    refine Jh ?_
    refine wpList_appI (m:=1) (news:=[(p:Int)]) rfl _ _ rfl rfl hr5 rfl (fun _=>Nat.lt_of_lt_of_le Nat.zero_lt_one (Nat.le_refl 1)) rfl (news_has hb5.has) HAL.out HZ5.out ?_
    intro g6 cap6 w6 hr6 hg6
    have hX6:Ext wg w6:=Ext.grownO hX5 hg6 (fun q hq=>(hr5.at hq).1)
    have HR6:=Jh hr6
    have HX6:=Jh hX6
    clear hr6 hX6 hg6 hr5 hb5 hX5 hx5 HZ5
    generalize w4.alloc _=w5 at *
    go_wp2_with fail
    exact ⟨⟨p+1,_,_,_,_,_,_,_,_,_,_,_,_,_,_,rfl,by omega,_,HT2,HR6.out,HX6.out⟩,by simp [intOf];omega⟩
  ·obtain rfl:p=d.procs.length:=by omega
   have ht:=HT.out
   rw [List.drop_length,ckL,List.append_nil] at ht
   subst ht
   obtain ⟨au,cu,hu,-⟩:=HRU.out.open
   obtain ⟨tl,htle⟩:∃ tl,acc.length=tl:=⟨_,rfl⟩
   rw [htle] at hu htl
   subst hu
   have HTL:=Jh htle
   clear HT htle
   go_wp2_with ((with_reducible show Jw (Op.makeSlice _ _ _));refine Hid.out ?_)
   refine Jh ?_
   have hx2:=ext_alloc wr (.cells (madeCells (Value.int .i64 0).cells (d.procs.length*1)) 3)
   have hb2:=Blk.new wr (madeCells (Value.int .i64 0).cells (d.procs.length*1)) 3
   rw [show madeCells (Value.int .i64 0).cells (d.procs.length*1)=((List.replicate d.procs.length (0:Int)).map (Value.int .i64)).toArray by rw [Nat.mul_one];exact (madeCells_one _ _).trans (by rw [List.map_replicate])] at hx2 hb2
   refine wpList_mk rfl _ _ _ rfl (n:=d.procs.length) rfl rfl Tryz.underlying31 info_int (by omega) (by omega) ?_
   rw [show madeCells (Value.int .i64 0).cells (d.procs.length*1)=((List.replicate d.procs.length (0:Int)).map (Value.int .i64)).toArray by rw [Nat.mul_one];exact (madeCells_one _ _).trans (by rw [List.map_replicate])]
   have hs2:(wr.alloc (.cells ((List.replicate d.procs.length (0:Int)).map (Value.int .i64)).toArray 3)).heap.size=wr.heap.size+1:=by simp
   generalize wr.alloc _=w4 at *
   obtain ⟨c,hc⟩:∃ c,wr.heap.size=c:=⟨_,rfl⟩
   rw [hc] at hb2 hs2 hsr ⊢
   have HCC:=Jh hc
   have HX2:=Jh hx2
   have HB2:=Jh hb2
   have hres:=HRS.out
   obtain ⟨lv,hlv⟩:∃ lv,levs G acc (List.replicate d.procs.length 0)=lv:=⟨_,rfl⟩
   rw [hlv] at hres
   subst hres
   have HLV:Hid (levs G (acc.drop 0) (List.replicate d.procs.length 0)=lv):=Jh hlv
   clear hc hx2 hb2 hs2 hlv HRS
   go_wp2_with fail
   refine wp_loop (fun a wq=>∃ (k:Nat) (y11 y13 y44 y45 y46 y47 y48 y49 y50 y51 y52 y53 y54 y55 y56 y57 y58 y59 y60 y61 y62 y63 y64 y65 y66 y67 y68 y69 y70:Value),a=⟨#[.agg #[sv,.slice a0 d.procs.length c0,cv],.pointer (some ⟨w.heap.size,0,Option.none⟩),.slice Option.none 0 0,.int .i64 0,.slice ag d.procs.length cg,.slice au tl cu,.int .i64 0,x7,x8,.slice (some ⟨c,0,Option.none⟩) d.procs.length d.procs.length,undef,y11,undef,y13,.tuple #[.slice ag d.procs.length cg,ov,.int .i64 0],.agg #[sv,.slice a0 d.procs.length c0,cv],.tuple #[.slice ag d.procs.length cg,ov,.int .i64 0],.slice ag d.procs.length cg,ov,.int .i64 0,.int .i64 0,.bool false,undef,.pointer (some ⟨w.heap.size,1,Option.none⟩),.slice a0 d.procs.length c0,.int .i64 d.procs.length,.int .i64 d.procs.length,.bool false,x28,x29,x30,x31,x32,x33,x34,x35,x36,x37,.slice ag d.procs.length cg,.int .i64 d.procs.length,.slice (some ⟨c,0,Option.none⟩) d.procs.length d.procs.length,.slice au tl cu,.int .i64 tl,.int .i64 (k:Int),y44,y45,y46,y47,y48,y49,y50,y51,y52,y53,y54,y55,y56,y57,y58,y59,y60,y61,y62,y63,y64,y65,y66,y67,y68,y69,y70,undef],[]⟩ /\
    k<=tl/\∃ out:List Int,out.length=d.procs.length/\Hid (levs G (acc.drop k) out=lv)/\Hid (∀ x∈out,0<=x/\x<=(k:Int)*1073741824)/\Blk wq c (out.map (Value.int .i64)).toArray 3/\w4.grownBy wq (some c)) (fun a _=>tl-(intOf (a.tmps.getD 43 undef)).toNat)
    ⟨0,_,_,_,_,_,_,_,_,_,_,_,_,_,_,_,_,_,_,_,_,_,_,_,_,_,_,_,_,_,rfl,Nat.zero_le _,List.replicate d.procs.length 0,by simp,HLV,Jh (by intro x hx;rw [List.eq_of_mem_replicate hx];omega),HB2.out,gb_refl _ _⟩ ?_
   clear HLV HB2
   rintro a wq ⟨k,y11,y13,y44,y45,y46,y47,y48,y49,y50,y51,y52,y53,y54,y55,y56,y57,y58,y59,y60,y61,y62,y63,y64,y65,y66,y67,y68,y69,y70,rfl,hk,out,hol2,HLV,HBD,hbq,hgq⟩
   have HOL:=Jh hol2
   have HBQ:=Jh hbq
   have HGQ:=Jh hgq
   clear hol2 hbq hgq
   by_cases hkl:k<tl
   ·have hka:k<acc.length:=by rw [HTL.out];exact hkl
    obtain ⟨ga,ca,hae,-,hgc⟩:=HRU.out.open1 (by omega)
    rw [HTL.out] at hae
    injection hae with e1 e2 e3
    subst e1
    subst e3
    have hgac:ga<wr.heap.size:=(HRU.out.at rfl).2.elim fun cur h=>(Array.getElem?_eq_some_iff.1 h).1
    rw [HCC.out] at hgac
    have hpr:=HTR.out _ (List.getElem_mem hka)
    have yk:=hgc k _ (List.getElem?_eq_getElem hka)
    have hlv:=HLV.out
    rw [List.drop_eq_getElem_cons hka,levs] at hlv
    have yk2:=(Has.grown (cs:=[.int .i64 acc[k]]) (fun j u hj=>by cases j with
     | zero=>simp at hj;subst hj;exact Has.one1 yk HX2.out
     | succ j=>simp at hj) HGQ.out (by omega)) 0 _ rfl
    rw [Nat.add_zero] at yk2
    generalize acc[k]=pk at *
    obtain ⟨p',rfl⟩:∃ p':Nat,pk=p':=⟨pk.toNat,by omega⟩
    have hpn:p'<d.procs.length:=by omega
    have hpg:p'<G.length:=by rw [HGL.out];exact hpn
    obtain rfl:=HAG.out (by omega)
    obtain ⟨ul,he1,he2⟩:=HGW.out.get (List.getElem?_eq_getElem hpg)
    have hbgl:bg<wg.heap.size:=World.block_lt_of_cell? wg _ (he1 0 _ rfl)
    have yg:=(Has.grown ((he1.ext HXR.out).ext HX2.out) HGQ.out (by omega)) 0 _ rfl
    simp only [Nat.mul_one,Nat.add_zero] at yg
    have hll:=(HGR.out _ (List.getElem_mem hpg)).1
    have hlr:=(HGR.out _ (List.getElem_mem hpg)).2
    rw [Int.toNat_natCast,List.getD_eq_getElem?_getD,List.getElem?_eq_getElem hpg] at hlv
    simp only [Option.getD_some] at hlv
    generalize G[p']=l at *
    rw [HGL.out] at hlr
    obtain ⟨al,bl,ol,cl,rfl,hl1,hl2,hal,hlrw⟩:=he2.open
    have HLV2:Hid (levs G (acc.drop (k+1)) (lev1 p' (l.drop 0) out)=lv):=Jh hlv
    have HALL:=Jh hal
    have HLRW:=Jh hlrw
    have HLR:=Jh hlr
    clear hlv hal hlrw hlr he1 he2 hgc yk hka HLV hpr hpg
    go_wp2_with fail
    refine wp_loop (fun a wi=>∃ (j:Nat) (z13 z53 z54 z55 z56 z57 z58 z59 z60 z61 z62 z63 z64 z65 z66 z67 z68 z69 z70:Value),a=⟨#[.agg #[sv,.slice a0 d.procs.length c0,cv],.pointer (some ⟨w.heap.size,0,Option.none⟩),.slice Option.none 0 0,.int .i64 0,.slice (some ⟨bg,og,Option.none⟩) d.procs.length cg,.slice (some ⟨ga,0,Option.none⟩) tl cu,.int .i64 0,x7,x8,.slice (some ⟨c,0,Option.none⟩) d.procs.length d.procs.length,undef,.int .i64 (p':Int),undef,z13,.tuple #[.slice (some ⟨bg,og,Option.none⟩) d.procs.length cg,ov,.int .i64 0],.agg #[sv,.slice a0 d.procs.length c0,cv],.tuple #[.slice (some ⟨bg,og,Option.none⟩) d.procs.length cg,ov,.int .i64 0],.slice (some ⟨bg,og,Option.none⟩) d.procs.length cg,ov,.int .i64 0,.int .i64 0,.bool false,undef,.pointer (some ⟨w.heap.size,1,Option.none⟩),.slice a0 d.procs.length c0,.int .i64 d.procs.length,.int .i64 d.procs.length,.bool false,x28,x29,x30,x31,x32,x33,x34,x35,x36,x37,.slice (some ⟨bg,og,Option.none⟩) d.procs.length cg,.int .i64 d.procs.length,.slice (some ⟨c,0,Option.none⟩) d.procs.length d.procs.length,.slice (some ⟨ga,0,Option.none⟩) tl cu,.int .i64 tl,.int .i64 (k:Int),.bool true,.pointer (some ⟨ga,k,Option.none⟩),.int .i64 (p':Int),.slice (some ⟨bg,og,Option.none⟩) d.procs.length cg,.int .i64 (p':Int),.pointer (some ⟨bg,og+p',Option.none⟩),.slice al l.length cl,.int .i64 l.length,.int .i64 (j:Int),z53,z54,z55,z56,z57,z58,z59,z60,z61,z62,z63,z64,z65,z66,z67,z68,z69,z70,undef],[]⟩ /\
     j<=l.length/\∃ out:List Int,out.length=d.procs.length/\Hid (levs G (acc.drop (k+1)) (lev1 p' (l.drop j) out)=lv)/\Hid (∀ x∈out,0<=x/\x<=(k:Int)*1073741824+j)/\Blk wi c (out.map (Value.int .i64)).toArray 3/\w4.grownBy wi (some c)) (fun a _=>l.length-(intOf (a.tmps.getD 52 undef)).toNat)
     ⟨0,_,_,_,_,_,_,_,_,_,_,_,_,_,_,_,_,_,_,_,rfl,Nat.zero_le _,out,HOL.out,HLV2,Jh (by intro x hx;have:=HBD.out x hx;omega),HBQ.out,HGQ.out⟩ ?_
    clear HLV2 HBQ HGQ HBD HOL yk2 yg
    rintro a wi ⟨j,z13,z53,z54,z55,z56,z57,z58,z59,z60,z61,z62,z63,z64,z65,z66,z67,z68,z69,z70,rfl,hj,out,hol2,HLV2,HBD,hbi,hgi⟩
    have HOL:=Jh hol2
    have HBI:=Jh hbi
    have HGI:=Jh hgi
    clear hbi hgi
    by_cases hjl:j<l.length
    ·obtain rfl:=HALL.out (by omega)
     have hq:=HLRW.out.get (List.getElem?_eq_getElem hjl)
     have hbl:bl<wg.heap.size:=World.block_lt_of_cell? wg _ (hq 0 _ rfl)
     have yq:=(Has.grown ((hq.ext HXR.out).ext HX2.out) HGI.out (by omega)) 0 _ rfl
     simp only [Nat.mul_one,Nat.add_zero] at yq
     have hqr:=HLR.out _ (List.getElem_mem hjl)
     have hlv:=HLV2.out
     rw [List.drop_eq_getElem_cons hjl,lev1] at hlv
     generalize l[j]=q at *
     obtain ⟨q',rfl⟩:∃ q':Nat,q=q':=⟨q.toNat,by omega⟩
     have hqn:q'<out.length:=by rw [hol2];omega
     have hpo:p'<out.length:=by rw [hol2];exact hpn
     rw [Int.toNat_natCast,getD_lt hqn,getD_lt hpo] at hlv
     have ya:=HBI.out.cell p'
     rw [List.getElem?_toArray,List.getElem?_map,List.getElem?_eq_getElem hpo] at ya
     have yb:=HBI.out.cell q'
     rw [List.getElem?_toArray,List.getElem?_map,List.getElem?_eq_getElem hqn] at yb
     simp only [Option.map_some] at ya yb
     have hba:=HBD.out _ (List.getElem_mem hpo)
     have hbb:=HBD.out _ (List.getElem_mem hqn)
     generalize out[p']=va at *
     generalize out[q']=vb at *
     have hkb:(k:Int)*1073741824<=2251799813685248:=by omega
     have hvv:0<=vb/\vb<=9007199254740992:=by omega
     have HLV3:=Jh hlv
     have hb9:=blk_setI HBI.out p' (max va (vb+1))
     have hg9:=gb_trans HGI.out (gb_set wi c p' (.int .i64 (max va (vb+1))))
     have hbd2:∀ x∈out.set p' (max va (vb+1)),0<=x/\x<=(k:Int)*1073741824+((j+1:Nat):Int):=by
      intro x hx
      rcases List.mem_or_eq_of_mem_set hx with hx | hx
      ·have:=HBD.out x hx;omega
      ·rw [hx];omega
     have HB9:=Jh hb9
     have HG9:=Jh hg9
     have HBD2:=Jh hbd2
     have HYA:=Jh ya
     have HYB:=Jh yb
     have hyf:=HBI.out.frozen p'
     have HYF:=Jh hyf
     clear hlv hb9 hg9 hbd2 ya yb hyf hba hbb hkb hq HLV2 HBD hqn hpo
     go_upto_region 17 with fail
     refine wp_region_held_drew (S:=fun _=>True) (by kernel_rfl) trivial (fun hH=>?_)
     try simp only [J]
     (refine Jt 0 (_) rfl (yif_load1 rfl fun _ _=>rfl) hH ?_;try simp only [J])
     (refine Jt 1 (_) rfl (yif_load1 rfl fun _ _=>rfl) hH ?_;try simp only [J])
     (refine Jt 2 (_) rfl (yif_load1 rfl fun _ _=>rfl) hH ?_;try simp only [J])
     (refine Jt 3 (_) rfl (yif_load1 rfl fun _ _=>rfl) hH ?_;try simp only [J])
     (refine Jt 4 (.pointer (some ⟨c,p',Option.none⟩)) rfl (yif_load1 rfl (by intro W3 hW;clear hW;go_simp)) hH ?_;try simp only [J])
     (refine Jt 6 (_) rfl (yif_load1 rfl fun _ _=>rfl) hH ?_;try simp only [J])
     (refine Jt 7 (_) rfl (yif_load1 rfl fun _ _=>rfl) hH ?_;try simp only [J])
     (refine Jt 8 (.pointer (some ⟨c,q',Option.none⟩)) rfl (yif_load1 rfl (by intro W3 hW;clear hW;go_simp;intro h;omega)) hH ?_;try simp only [J])
     have ya:wi.drew.cell? ⟨c,p',none⟩=some (.int .i64 va):=HYA.out
     have yb:wi.drew.cell? ⟨c,q',none⟩=some (.int .i64 vb):=HYB.out
     refine wpAnyH_ready (rs:=[5,9]) (by kernel_rfl) (by simp) ?_
     refine AllReadyH.cons rfl (fun K hK=>?_) (AllReadyH.cons rfl (fun K hK=>?_) AllReadyH.nil)
     ·go_simp
      refine hK.out _ _ trivial (fun hH=>?_)
      clear hK K
      try simp only [J]
      refine Jr 9 rfl fun K hK=>?_
      go_simp
      refine hK.out _ _ trivial (fun hH=>?_)
      clear hK K
      try simp only [J]
      (refine Jt 10 (.int .i64 (vb+1)) rfl (yif_load1 rfl (by intro W3 hW;clear hW ya yb;go_simp;rw [IntKind.wrap_i64];omega)) hH ?_;try simp only [J])
      (refine Jt 11 (.int .i64 (max va (vb+1))) rfl (yif_load1 rfl (by intro W3 hW;clear hW ya yb;go_simp)) hH ?_;try simp only [J])
      (refine Jt 12 (.pointer (some ⟨c,p',Option.none⟩)) rfl (yif_load1 rfl (by intro W3 hW;clear hW ya yb;go_simp)) hH ?_;try simp only [J])
      refine Jr 13 rfl fun K hK=>?_
      have yf:wi.drew.frozen? ⟨c,p',none⟩=false:=HYF.out
      go_simp
      refine hK.out _ _ trivial (fun hH=>?_)
      clear hK K ya yb yf
      refine Jz ?_
      simp only [Exit.inBlock]
      go_wp2_with fail
      first | exact ⟨⟨j+1,by omega,by omega,_,by rw [List.length_set];exact HOL.out,HLV3,HBD2,HB9.out.drew,gb_drew HG9.out⟩,by simp [intOf];omega⟩ | exact ⟨⟨j+1,_,_,_,_,_,_,_,_,_,_,_,_,_,_,_,_,_,_,_,rfl,by omega,_,by rw [List.length_set];exact HOL.out,HLV3,HBD2,HB9.out.drew,gb_drew HG9.out⟩,by simp [intOf];omega⟩
     ·go_simp
      refine hK.out _ _ trivial (fun hH=>?_)
      clear hK K
      try simp only [J]
      (refine Jt 10 (.int .i64 (vb+1)) rfl (yif_load1 rfl (by intro W3 hW;clear hW ya yb;go_simp;rw [IntKind.wrap_i64];omega)) hH ?_;try simp only [J])
      refine Jr 5 rfl fun K hK=>?_
      go_simp
      refine hK.out _ _ trivial (fun hH=>?_)
      clear hK K
      try simp only [J]
      (refine Jt 11 (.int .i64 (max va (vb+1))) rfl (yif_load1 rfl (by intro W3 hW;clear hW ya yb;go_simp)) hH ?_;try simp only [J])
      (refine Jt 12 (.pointer (some ⟨c,p',Option.none⟩)) rfl (yif_load1 rfl (by intro W3 hW;clear hW ya yb;go_simp)) hH ?_;try simp only [J])
      refine Jr 13 rfl fun K hK=>?_
      have yf:wi.drew.frozen? ⟨c,p',none⟩=false:=HYF.out
      go_simp
      refine hK.out _ _ trivial (fun hH=>?_)
      clear hK K ya yb yf
      refine Jz ?_
      simp only [Exit.inBlock]
      go_wp2_with fail
      first | exact ⟨⟨j+1,by omega,by omega,_,by rw [List.length_set];exact HOL.out,HLV3,HBD2,HB9.out.drew,gb_drew HG9.out⟩,by simp [intOf];omega⟩ | exact ⟨⟨j+1,_,_,_,_,_,_,_,_,_,_,_,_,_,_,_,_,_,_,_,rfl,by omega,_,by rw [List.length_set];exact HOL.out,HLV3,HBD2,HB9.out.drew,gb_drew HG9.out⟩,by simp [intOf];omega⟩
    ·have hjj:j=l.length:=by omega
     have hlv:=HLV2.out
     rw [hjj,List.drop_length,lev1] at hlv
     have HLV3:=Jh hlv
     have HBD2:Hid (∀ x∈out,0<=x/\x<=((k+1:Nat):Int)*1073741824):=Jh (by intro x hx;have:=HBD.out x hx;omega)
     clear hlv HLV2 HBD
     go_wp2_with fail
     first | exact ⟨⟨k+1,by omega,by omega,out,HOL.out,HLV3,HBD2,HBI.out,HGI.out⟩,by simp [intOf];omega⟩ | exact ⟨⟨k+1,_,_,_,_,_,_,_,_,_,_,_,_,_,_,_,_,_,_,_,_,_,_,_,_,_,_,_,_,_,rfl,by omega,out,HOL.out,HLV3,HBD2,HBI.out,HGI.out⟩,by simp [intOf];omega⟩
   ·obtain rfl:k=tl:=by omega
    have hlv:=HLV.out
    rw [<-HTL.out,List.drop_length,levs] at hlv
    subst hlv
    have hrow:=IntRow.ofBlk (N:=w.heap.size) HBQ.out (by have:=(HX.out.trans HXG.out).size;omega) (by rw [HOL.out];omega)
    rw [HOL.out] at hrow
    have hxx:Ext w wq:=Ext.grown ((HX.out.trans (HXG.out.trans HXR.out)).trans HX2.out) HGQ.out (by have:=(HX.out.trans HXG.out).size;omega)
    have HROW:=Jh hrow
    have HXX:=Jh hxx
    clear hrow hxx HLV
    go_wp2_with fail
    refine bodyPost_ret (v:=.tuple #[.slice (some ⟨c,0,Option.none⟩) d.procs.length d.procs.length,.int .i64 0]) (by simp [results,Tryz.results57,go_sem]) rfl ⟨_,rfl,HROW.out,HXX.out⟩
 ·have hbq:((lookM d).1==0)=false:=by rw [beq_eq_false_iff_ne];exact he
  have hres:=HRES.out
  unfold levD at hres
  rw [if_pos he] at hres
  subst hres
  clear he HRES
  go_wp2_with (first | ((with_reducible show Jl 26);refine Jm 26 (HB.out.has) agg_Flat rfl ?_) | (go_at_call 59;refine HL.out.mono ?_;rintro r w2 ⟨gv,ov,rfl,wg,hg2,hxg,hxh,hr2⟩))
  refine bodyPost_ret (v:=.tuple #[.slice Option.none 0 0,.int .i64 (lookM d).1]) (by simp [results,Tryz.results57,go_sem]) rfl ⟨.slice Option.none 0 0,rfl,IntRow.nil _ _,HX.out.trans (hxg.trans hxh)⟩
end Go.Proofs.YtpdpgmfnfajbfaaGreat
