/- Laws and walks that a claim of this seat leans on: Clone, Run, MarkB, Done12, RestM, CycM, CycL, TicksL. -/
import Derived.Test.YtoaamjgfhppppaaGreatT23
import Derived.Test.YtoaamjgfhppppaaGreatT24
import Derived.Test.YtoaamjgfhppppaaGreatT13
import Derived.Test.YtoaamjgfhppppaaGreatT22
import Derived.Test.YtoaamjgfhppppaaGreatT00
set_option maxRecDepth 100000
set_option maxHeartbeats 8000000
set_option linter.all false
namespace Go.Proofs.YtoaamjgfhppppaaGreat
open Go.RowKit
theorem CloneW_calls (l:List Nat) (s:Value) (w:World) (h:Us w s l) (hl:l.length<=1048576) :
  Calls Tryz.prog 42 #[s] w fun r w'=>∃ u,r=.returned u/\WordRow w.heap.size u l w'/\Ext w w':=by
 have HX:=Jh (ext_alloc w (.cells #[] 39))
 have HN:=Jh (h.ext HX.out)
 have HROW:=Jh (WordRow.bs0 w (N:=w.heap.size) (Nat.le_refl _))
 obtain ⟨a,b,o,cap,rfl,hc1,hc2,ha,hr⟩:=h.open
 have hnil:=fun W=>Lib.run_eql_slice_nil (P:=Tryz.prog) W 27 39 a l.length cap 0 0 Tryz.underlying27
 cases a with
 | none =>
  have h0:l.length=0:=by
   by_cases hh:0<l.length
   ·have:=ha hh;cases this
   ·omega
  have H0:=Jh h0
  clear h0 ha hr h HX HN HROW
  go_enter Tryz.func42,Tryz.ntmps42
  go_wp2_with fail
  go_ret
  obtain rfl:l=[]:=List.eq_nil_of_length_eq_zero H0.out
  exact ⟨_,rfl,WordRow.nil _ _,Below.refl _ _⟩
 | some ad =>
  clear hr ha h
  go_enter Tryz.func42,Tryz.ntmps42
  go_wp2_with (first | ((with_reducible show Jw (Op.buildSlice _ _ _));refine wpList_bs0 rfl _ rfl appWord ?_) | ((with_reducible show Jw (Op.call { callee:=.builtin .append,args:=_,argTypes:=_ }));refine wpList_appW rfl _ _ rfl rfl HROW.out rfl HN.out (by simp;omega) (by simp) ?_;intro v4 w4 hrow4 hg4))
  go_ret
  exact ⟨_,rfl,by simpa using hrow4,Below.grown HX.out hg4 HX.out.size (fun k hk=>by cases hk;exact Nat.le_refl _)⟩
theorem runM_no {d:Flat} {vs:List Nat} {p:Int} (h:¬ (valsOk d vs=true/\0<=p/\p<d.procs.length)):runM d vs p=([],1):=by unfold runM;rw [if_neg h]
theorem runM_yes {d:Flat} {vs:List Nat} {p:Int} (h:valsOk d vs=true/\0<=p/\p<d.procs.length):runM d vs p=(allM ((d.procs[p.toNat]?.map (·.clocked)).getD false) vs (procL d p) vs,0):=by unfold runM;rw [if_pos h]
theorem Run_calls (d:Flat) (v:Value) (vs:List Nat) (s:Value) (p:Int) (w:World) (hF:FlatV w v d) (hok:d.ok) (hs:Us w s vs) (h64:us64 vs) (hp:i64r p) :
  Calls Tryz.prog 15 #[v,s,.int .i64 p] w fun r w'=>∃ u,r=.returned (.tuple #[u,.int .i64 (runM d vs p).2])/\WordRow w.heap.size u (runM d vs p).1 w'/\Ext w w':=by
 have HF:=Jh (fun W (h:Ext w W)=>hF.ext h)
 have HCK:=Jh (fun W (h:Ext w W)=>Check_calls d v W (hF.ext h) hok)
 have HVA:=Jh (fun W (h:Ext w W)=>Values_calls d v vs s W (hF.ext h) hok (hs.ext h) h64)
 have HUS:=Jh (fun W (h:Ext w W)=>hs.ext h)
 have hln:=hok.procs
 obtain ⟨sv,pv,cv,rfl,hS,hP,hC⟩:=hF
 have hone:[sv,pv,cv].all (·.oneCell')=true:=by simp [hS.one,hP.one,hC.one]
 have HPR:=Jh (fun W (h:Ext w W)=>hP.ext h)
 obtain ⟨a0,b0,o0,c0,rfl,-,-,-,-⟩:=hS.open
 obtain ⟨ap,bp,op,cp,rfl,hp1,hp2,hap,hpr⟩:=hP.open
 obtain ⟨ac,bc,oc,cc,rfl,-,-,-,-⟩:=hC.open
 obtain ⟨av,bv,ov,capv,rfl,-,-,-,-⟩:=hs.open
 have hX:=ext_alloc w (.cells [Value.slice a0 d.signals.length c0,.slice ap d.procs.length cp,.slice ac d.checks.length cc].toArray 26)
 have hD:=Blk.new w [Value.slice a0 d.signals.length c0,.slice ap d.procs.length cp,.slice ac d.checks.length cc].toArray 26
 have HAP:=Jh hap
 have HPP:=Jh hpr
 have HOK:=Jh hok
 have HPI:=Jh hp
 clear hS hP hC hs hap hpr hok
 unfold i64r at hp
 go_enter Tryz.func15,Tryz.ntmps15
 go_upto_region 1 with fail
 generalize w.alloc _=w0 at *
 have HD:=Jh hD
 have HX:=Jh hX
 have d0:=hD.has
 have d1:=hD.has 1 _ rfl
 clear hD hX
 by_cases hck:checkM d=0
 case neg =>
  have c1:(checkM d != 0)=true:=by rw [bne_iff_ne];exact hck
  have HR:=Jh (runM_no (d:=d) (vs:=vs) (p:=p) (fun h=>hck (by have:=h.1;unfold valsOk at this;simp only [Bool.and_eq_true,decide_eq_true_eq] at this;exact this.2.1)))
  clear hck
  go_wp2_with (first | ((with_reducible show Jl 26);refine Jm 26 (d0) agg_Flat rfl ?_) | (go_at_call 41;refine (HCK.out w0 HX.out).mono ?_;rintro r w1 ⟨rfl,hx1⟩))
  refine bodyPost_ret (v:=.tuple #[.slice none 0 0,.int .i64 1]) (by simp [results,Tryz.results15,go_sem]) rfl ⟨_,by rw [HR.out],by rw [HR.out];exact WordRow.nil _ _,HX.out.trans hx1⟩
 have HC0:=Jh hck
 rw [hck] at HCK
 obtain ⟨q,hq⟩:∃ q,valsOk d vs=q:=⟨_,rfl⟩
 have HQ:=Jh hq
 rw [hq] at HVA
 clear hq hck
 cases q
 case false =>
  have HR:=Jh (runM_no (d:=d) (vs:=vs) (p:=p) (fun h=>by rw [HQ.out] at h;cases h.1))
  go_wp2_with (first | ((with_reducible show Jl 26);refine Jm 26 (d0) agg_Flat rfl ?_) | (go_at_call 41;refine (HCK.out w0 HX.out).mono ?_;rintro r w1 ⟨rfl,hx1⟩;have d2:=(HD.out.ext hx1).has) | ((with_reducible show Jl 26);refine Jm 26 (d2) agg_Flat rfl ?_) | (go_at_call 21;refine (HVA.out w1 (HX.out.trans hx1)).mono ?_;rintro r w2 ⟨rfl,hx2⟩))
  refine bodyPost_ret (v:=.tuple #[.slice none 0 0,.int .i64 1]) (by simp [results,Tryz.results15,go_sem]) rfl ⟨_,by rw [HR.out],by rw [HR.out];exact WordRow.nil _ _,HX.out.trans (hx1.trans hx2)⟩
 by_cases hp0:p<0
 ·have b1:decide (p<0)=true:=decide_eq_true hp0
  have HR:=Jh (runM_no (d:=d) (vs:=vs) (p:=p) (fun h=>by have:=h.2.1;omega))
  clear hp0
  go_wp2_with (first | ((with_reducible show Jl 26);refine Jm 26 (d0) agg_Flat rfl ?_) | (go_at_call 41;refine (HCK.out w0 HX.out).mono ?_;rintro r w1 ⟨rfl,hx1⟩;have d2:=(HD.out.ext hx1).has) | ((with_reducible show Jl 26);refine Jm 26 (d2) agg_Flat rfl ?_) | (go_at_call 21;refine (HVA.out w1 (HX.out.trans hx1)).mono ?_;rintro r w2 ⟨rfl,hx2⟩))
  refine bodyPost_ret (v:=.tuple #[.slice none 0 0,.int .i64 1]) (by simp [results,Tryz.results15,go_sem]) rfl ⟨_,by rw [HR.out],by rw [HR.out];exact WordRow.nil _ _,HX.out.trans (hx1.trans hx2)⟩
 by_cases hpl:(d.procs.length:Int)<=p
 ·have b1:decide (p<0)=false:=decide_eq_false hp0
  have b2:decide ((d.procs.length:Int)<=p)=true:=decide_eq_true hpl
  have HR:=Jh (runM_no (d:=d) (vs:=vs) (p:=p) (fun h=>by have:=h.2.2;omega))
  clear hp0 hpl
  go_wp2_with (first | ((with_reducible show Jl 26);refine Jm 26 (d0) agg_Flat rfl ?_) | (go_at_call 41;refine (HCK.out w0 HX.out).mono ?_;rintro r w1 ⟨rfl,hx1⟩;have d2:=(HD.out.ext hx1).has) | ((with_reducible show Jl 26);refine Jm 26 (d2) agg_Flat rfl ?_) | (go_at_call 21;refine (HVA.out w1 (HX.out.trans hx1)).mono ?_;rintro r w2 ⟨rfl,hx2⟩;have d3:=(HD.out.ext (hx1.trans hx2)).has 1 _ rfl))
  refine bodyPost_ret (v:=.tuple #[.slice none 0 0,.int .i64 1]) (by simp [results,Tryz.results15,go_sem]) rfl ⟨_,by rw [HR.out],by rw [HR.out];exact WordRow.nil _ _,HX.out.trans (hx1.trans hx2)⟩
 obtain ⟨k,rfl⟩:=Int.eq_ofNat_of_zero_le (show 0<=p by omega)
 have hk:k<d.procs.length:=by omega
 have b1:decide ((k:Int)<0)=false:=decide_eq_false hp0
 have b2:decide ((d.procs.length:Int)<=(k:Int))=false:=decide_eq_false hpl
 have HR:=Jh (runM_yes (d:=d) (vs:=vs) (p:=(k:Int)) ⟨HQ.out,by omega,by omega⟩)
 rw [Int.toNat_natCast,List.getElem?_eq_getElem hk,procL_get (by rw [Int.toNat_natCast];exact hk)] at HR
 simp only [Option.map_some,Option.getD_some,Int.toNat_natCast] at HR
 obtain rfl:=HAP.out (by omega)
 have hat:=HPP.out.get (List.getElem?_eq_getElem hk)
 have HRO:=Jh (runOk_check HOK.out HC0.out _ (List.getElem_mem hk))
 have hnl:=nodes_proc d k hk
 have hnd:=HOK.out.nodes
 have hll:(d.procs[k].l).length<=1048576:=by have:=length_le_sumBy nodesT d.procs[k].l (fun x _=>nodesT_pos x);omega
 have HNS:=Jh (show sumBy nodesT d.procs[k].l<=1048576 by omega)
 clear hp0 hpl hnl hnd
 generalize d.procs[k]=pk at *
 obtain ⟨lv,hph,hpt⟩:=hat
 have HPH:=Jh (fun W (h:Ext w W)=>hph.ext h)
 have HPT:=Jh (fun W (h:Ext w W)=>hpt.ext h)
 obtain ⟨al,bl,ol,cl,rfl,-,-,-,-⟩:=hpt.open
 have hvl:vs.length<=1048576:=by
  have h1:=(valsOk_val2 HQ.out).1
  have h2:=HOK.out.signals
  omega
 have HV2:=Jh (valsOk_val2 HQ.out)
 clear hph hpt
 generalize hgc:pk.clocked=ck at *
 go_upto_region 3 with (first | ((with_reducible show Jl 26);refine Jm 26 (d0) agg_Flat rfl ?_) | (go_at_call 41;refine (HCK.out w0 HX.out).mono ?_;rintro r w1 ⟨rfl,hx1⟩;have d2:=(HD.out.ext hx1).has) | ((with_reducible show Jl 26);refine Jm 26 (d2) agg_Flat rfl ?_) | (go_at_call 21;refine (HVA.out w1 (HX.out.trans hx1)).mono ?_;rintro r w2 ⟨rfl,hx2⟩;have d3:=(HD.out.ext (hx1.trans hx2)).has 1 _ rfl))
 have X2:=Jh (HX.out.trans (hx1.trans hx2))
 have HD2:=Jh (HD.out.ext (hx1.trans hx2))
 clear hx1 hx2 d0 d1 d2 d3 HX HD HCK HVA
 refine Jg w2 fun hH=>?_
 try simp only [J]
 (refine Jt 0 (.agg [Value.slice a0 d.signals.length c0,.slice (some ⟨bp,op,none⟩) d.procs.length cp,.slice ac d.checks.length cc].toArray) rfl (yif_load rfl 26 _ rfl rfl (fun W hW=>(HD2.out.ext hW).has) agg_Flat rfl) hH ?_;try simp only [J])
 (refine Jt 1 (.slice av vs.length capv) rfl (yif_load1 rfl fun _ _=>rfl) hH ?_;try simp only [J])
 (refine Jt 2 (.slice av vs.length capv) rfl (yif_load1 rfl fun _ _=>rfl) hH ?_;try simp only [J])
 (refine Jt 4 (.pointer (some ⟨w.heap.size,1,none⟩)) rfl (yif_load1 rfl (by intro W hW;clear hW;go_simp)) hH ?_;try simp only [J])
 (refine Jt 5 (.slice (some ⟨bp,op,none⟩) d.procs.length cp) rfl (yif_load1 rfl (by intro W hW;have z:=(HD2.out.ext hW).has 1 _ rfl;clear hW;go_simp)) hH ?_;try simp only [J])
 (refine Jt 6 (.int .i64 (k:Int)) rfl (yif_load1 rfl fun _ _=>rfl) hH ?_;try simp only [J])
 (refine Jt 7 (.pointer (some ⟨bp,op+k*2,none⟩)) rfl (yif_load1 rfl (by intro W hW;clear hW;go_simp;try (intro h;omega))) hH ?_;try simp only [J])
 (refine Jt 8 (.pointer (some ⟨bp,op+k*2,none⟩)) rfl (yif_load1 rfl (by intro W hW;clear hW;go_simp)) hH ?_;try simp only [J])
 (refine Jt 9 (.bool ck) rfl (yif_load1 rfl (by intro W hW;have z:=(HPH.out W (X2.out.trans hW)) 0 _ rfl;rw [hgc,Nat.add_zero] at z;clear hW;go_simp)) hH ?_;try simp only [J])
 (refine Jr 3 rfl fun K hK=>?_)
 go_simp
 have hwb:Ext w w2.drew:=X2.out.trans hH
 refine (CloneW_calls vs _ _ (HUS.out _ hwb) hvl).mono ?_
 rintro r w3 ⟨u,rfl,hr3,hx3⟩
 refine hK.out _ _ (hH.trans hx3) (fun hH=>?_)
 clear hK K
 obtain ⟨au,cu,rfl,-⟩:=hr3.open
 try simp only [J]
 (refine Jt 10 (.agg [Value.slice a0 d.signals.length c0,.slice (some ⟨bp,op,none⟩) d.procs.length cp,.slice ac d.checks.length cc,.slice av vs.length capv,.slice au vs.length cu,.bool ck].toArray) rfl (yif_load1 rfl (by intro W hW;clear hW;go_simp)) hH ?_;try simp only [J])
 (refine Jr 11 rfl fun K hK=>?_)
 go_simp
 have x4:=ext_alloc w3 (.cells (plCells (.slice a0 d.signals.length c0) (.slice (some ⟨bp,op,none⟩) d.procs.length cp) (.slice ac d.checks.length cc) (.slice av vs.length capv) (.slice au vs.length cu) ck).toArray 81)
 have hb4:=Blk.new w3 (plCells (.slice a0 d.signals.length c0) (.slice (some ⟨bp,op,none⟩) d.procs.length cp) (.slice ac d.checks.length cc) (.slice av vs.length capv) (.slice au vs.length cu) ck).toArray 81
 refine hK.out _ _ (hH.trans x4) (fun hH=>?_)
 clear hK K
 try simp only [J]
 obtain ⟨P,hP⟩:∃ P,w3.heap.size=P:=⟨_,rfl⟩
 rw [hP] at hb4 ⊢
 have HPL:Pl d (.slice a0 d.signals.length c0) (.slice (some ⟨bp,op,none⟩) d.procs.length cp) (.slice ac d.checks.length cc) (.slice av vs.length capv) vs w2.drew:=⟨HOK.out,HC0.out,HF.out _ hwb,HUS.out _ hwb,HV2.out⟩
 have hPW:PlW d (.slice a0 d.signals.length c0) (.slice (some ⟨bp,op,none⟩) d.procs.length cp) (.slice ac d.checks.length cc) (.slice av vs.length capv) (.slice au vs.length cu) ck P w2.drew vs _:=⟨hx3.trans x4,HV2.out,hr3.ext x4,hb4⟩
 have hall:=plAll_of (nv:=.slice au vs.length cu) (ck:=ck) (P:=P) HPL pk.l hll (fun t ht=>⟨(pl_said HPL t (HRO.out t ht) (Nat.le_trans (le_sumBy nodesT pk.l t ht) HNS.out)).1,HRO.out t ht⟩) vs _ _ hPW (HPT.out _ hwb)
 have HALL:=Jh hall
 have HPW:=Jh hPW
 have hwz:=hwb.size
 have HX4:=Jh (hwb.trans (hx3.trans x4))
 have HGE:=Jh hwb.size
 clear hP hb4 hPW hall HPL x4 hx3 hr3 hwb hwz
 generalize w3.alloc _=w4 at *
 (refine Jt 12 (.pointer (some ⟨P,0,none⟩)) rfl (yif_load1 rfl fun _ _=>rfl) hH ?_;try simp only [J])
 refine Jz ?_
 have HD4:=Jh (HD2.out.ext hH)
 clear hH
 have z1:=HD4.out.has 1 _ rfl
 have p1:=(HPH.out _ HX4.out) 1 _ rfl
 generalize w2.drew=wb at *
 go_upto_region 5 with (first | (go_at_call 43;refine (HALL.out).mono ?_;rintro r w5 ⟨rfl,hr5,hg5⟩))
 have q4:=(HPW.out.blk.grownR hg5 (fun k hk=>HPW.out.row.ne HPW.out.blk (by decide) hk)).has 4 _ rfl
 have HX5:=Jh (Below.grown HX4.out hg5 HX4.out.size (fun k hk=>Nat.le_trans HGE.out (hr5.at hk).1))
 have HR5:=Jh (hr5.less HGE.out)
 clear hg5 hr5 p1 z1
 go_wp2_with ((with_reducible show bodyPost _ _ _ _ _ _);refine Hid.out ?_)
 refine Jh ?_
 refine bodyPost_ret (v:=.tuple #[.slice au vs.length cu,.int .i64 0]) (by simp [results,Tryz.results15,go_sem]) rfl ⟨_,by rw [HR.out],by rw [HR.out];exact HR5.out,HX5.out⟩
/-! ### rows of marks -/
theorem appBool:AppT Tryz.prog 64 4 1 1:=⟨Tryz.underlying64,by kernel_rfl,by decide,by decide⟩
abbrev Bools (w:World) (v:Value) (l:List Bool):Prop:=Sl 1 (fun (x:Bool) b o=>Has w b o [.bool x]) v l
def BoolRow (N:Nat) (v:Value) (l:List Bool) (w:World):Prop:=w.ownsRow N 4 1 v l.length (l.map (Value.bool))
theorem BoolRow.nil (N:Nat) (w:World):BoolRow N (.slice none 0 0) [] w:=World.ownsRow_nil _ _ _ _
theorem BoolRow.open {N:Nat} {v:Value} {l:List Bool} {w:World} (h:BoolRow N v l w):∃ a cap,v=.slice a l.length cap/\(v.ownBlock=none->l=[]):=by
 rcases h.2 with ⟨rfl,h0⟩ | ⟨g,cap,cur,rfl,-⟩
 ·exact ⟨none,0,by rw [h0],fun _=>List.eq_nil_of_length_eq_zero h0⟩
 ·exact ⟨_,cap,rfl,fun h=>by cases h⟩
theorem BoolRow.at {N:Nat} {v:Value} {l:List Bool} {w:World} (h:BoolRow N v l w) {k:Nat} (hk:v.ownBlock=some k):N<=k/\∃ cur,w.heap[k]? = some (.cells cur 4 (0,0)):=by
 rcases h.2 with ⟨rfl,h0⟩ | ⟨g,cap,cur,rfl,hb,hg,-⟩
 ·cases hk
 ·cases hk;exact ⟨hb,cur,hg⟩
theorem BoolRow.keep {N:Nat} {v:Value} {l:List Bool} {w w':World} (h:BoolRow N v l w) (hk:∀ k,v.ownBlock=some k->∀ o,w.heap[k]? = some o->w'.heap[k]? = some o):BoolRow N v l w':=by
 refine ⟨h.1,?_⟩
 rcases h.2 with hn | ⟨g,cap,cur,rfl,hb,hg,rest⟩
 ·exact .inl hn
 ·exact .inr ⟨g,cap,cur,rfl,hb,hk g rfl _ hg,rest⟩
theorem BoolRow.ext {N:Nat} {v:Value} {l:List Bool} {w w':World} (h:BoolRow N v l w) (hx:Ext w w'):BoolRow N v l w' :=
 h.keep fun k _ _ ho=>(hx.block k (Array.getElem?_eq_some_iff.1 ho).1).trans ho
theorem BoolRow.grown {N:Nat} {v:Value} {l:List Bool} {w w':World} {R:Option Nat} (h:BoolRow N v l w) (hg:w.grownBy w' R) (hR:∀ k,v.ownBlock=some k->some k≠R):BoolRow N v l w' :=
 h.keep fun k hk _ ho=>(hg.block k (Array.getElem?_eq_some_iff.1 ho).1 (hR k hk)).trans ho
theorem BoolRow.less {N M:Nat} {v:Value} {l:List Bool} {w:World} (h:BoolRow N v l w) (hM:M<=N):BoolRow M v l w:=by
 refine ⟨h.1,?_⟩
 rcases h.2 with hn | ⟨g,cap,cur,rfl,hb,rest⟩
 ·exact .inl hn
 ·exact .inr ⟨g,cap,cur,rfl,Nat.le_trans hM hb,rest⟩
theorem flatB1 (l:List Bool):(l.map fun x=>[Value.bool x]).flatten=l.map (Value.bool):=by
 induction l with
 | nil=>rfl
 | cons x l ih=>simp only [List.map_cons,List.flatten_cons,ih];rfl
theorem BoolRow.cells {N:Nat} {v:Value} {l:List Bool} {w:World} (h:BoolRow N v l w):Bools w v l:=by
 rcases h.2 with ⟨rfl,h0⟩ | ⟨g,cap,cur,rfl,hb,hg,hnc,hcm,hcs,htake⟩
 ·obtain rfl:l=[]:=List.eq_nil_of_length_eq_zero h0
  exact Sl.nil _ _
 ·refine ⟨g,0,⟨_,cap,rfl,hnc,hcm,fun _=>rfl⟩,rows_flat (f:=fun x=>[Value.bool x]) (fun _=>rfl) l 0 ?_⟩
  have:=flat_own (N:=N) (cap:=cap) (size:=1) hg htake
  rw [flatB1];exact this
theorem BoolRow.ne {N B:Nat} {v:Value} {cs:Array Value} {T:TypeId} {l:List Bool} {w:World} (h:BoolRow N v l w) (hb:Blk w B cs T) (hT:(T==4)=false) {k:Nat} (hk:v.ownBlock=some k):k≠B:=by
 rintro rfl
 obtain ⟨-,cur,hcur⟩:=h.at hk
 have h2:w.heap[k]? = some (.cells cs T (0,0)):=hb
 rw [hcur] at h2
 injection h2 with h2
 injection h2 with _ h2
 subst h2
 exact absurd hT (by decide)
theorem run_appBI {w:World} {N:Nat} {v:Value} {l:List Bool} (hown:BoolRow N v l w) {ty:TypeId} {ad:Addr} {m c:Nat} (hm:v=.slice none 0 0->0<m) {news:List Bool} (hl:news.length=m)
  (hnews:∀ j u,(news.map (Value.bool))[j]? = some u->w.cell? (ad.add j)=some u) (hn:l.length+m<=1099511627776) (hbase:N<=w.heap.size) :
  ∃ g cap w',(Builtin.append_ #[64,64] ty #[v,.slice (some ad) m c]).run Tryz.prog w=.ok (.slice (some ⟨g,0,none⟩) (l.length+m) cap) w'/\BoolRow N (.slice (some ⟨g,0,none⟩) (l.length+m) cap) (l++news) w'/\w.grownBy w' v.ownBlock:=by
 obtain ⟨ht,hinfo,hsz,hby⟩:=appBool
 cases hi:Tryz.prog.info? 4 with
 | none=>simp [hi] at hinfo
 | some i =>
  simp only [hi,Option.map_some,Option.some.injEq,Prod.mk.injEq] at hinfo
  obtain ⟨hz0,hs,hb⟩:=hinfo
  cases hz:i.zero with
  | none=>simp [hz] at hz0
  | some z =>
   simp only [hz,Option.map_some,Option.some.injEq] at hz0
   have h1':∀ u∈news.map (Value.bool),u.oneCell'=true:=by
    intro u hu
    obtain ⟨x,-,rfl⟩:=List.mem_map.1 hu
    rfl
   obtain ⟨v',w',hr,h2,h3,h4⟩:=run_append_own (P:=Tryz.prog) w N 64 ty 4 i z 1 1 ht hi hz hs hb hz0 (by decide) v l.length _ hown ad m c (news.map (Value.bool)) (by simp [hl]) hnews h1' (by simp only [maxLen];omega) (by omega) hbase
   have h5:BoolRow N v' (l++news) w':=by unfold BoolRow;rw [List.length_append,hl,List.map_append];exact h2
   rcases h2.2 with ⟨rfl,h0⟩ | ⟨g,cap,cur,rfl,-⟩
   ·have:=h4.1 rfl
    exact absurd (hm this.1) (by omega)
   ·exact ⟨g,cap,w',hr,h5,h3⟩
theorem wpList_appBI {ops:Array Oper} {rest:List Oper} {o:Oper} {a:Act} {w:World} {Q:Exit->Act->World->Prop} (hw:Region.wanted o (yielded ops a.tmps)=true) (s x:Operand)
  (ho:o.op=.call { callee:=.builtin .append,args:=#[s,x],argTypes:=#[64,64] }) {N:Nat} {v:Value} {l:List Bool} (hs:a.eval s=v) (hown:BoolRow N v l w)
  {ad:Addr} {m c:Nat} (hx:a.eval x=.slice (some ad) m c) (hm:v=.slice none 0 0->0<m) {news:List Bool} (hl:news.length=m)
  (hnews:∀ j u,(news.map (Value.bool))[j]? = some u->w.cell? (ad.add j)=some u) (hn:l.length+m<=1099511627776) (hbase:N<=w.heap.size)
  (h:∀ g cap w',BoolRow N (.slice (some ⟨g,0,none⟩) (l.length+m) cap) (l++news) w'->w.grownBy w' v.ownBlock->wpList Tryz.prog ops Q rest (a.put o.dst (.slice (some ⟨g,0,none⟩) (l.length+m) cap)) w') :
  wpList Tryz.prog ops Q (o::rest) a w :=
 BigFrame.wpList_want hw fun _ hK=>by
  obtain ⟨g,cap,w',hr,h2,h3⟩:=run_appBI (ty:=o.type) (c:=c) hown hm hl hnews hn hbase
  unfold Oper.wp execOp
  simp only [ho,resolve,invoke,builtin,Sem.run_bind,Sem.run_pure,Result.andThen_ok,List.map_toArray,List.map_cons,List.map_nil,hs,hx]
  rw [hr]
  exact hK _ _ (h g cap w' h2 h3)
theorem BoolRow.open1 {N:Nat} {v:Value} {l:List Bool} {w:World} (h:BoolRow N v l w) (hl:0<l.length):∃ g cap,v=.slice (some ⟨g,0,none⟩) l.length cap/\N<=g/\∀ i x,l[i]? = some x->w.cell? ⟨g,i,none⟩=some (.bool x):=by
 rcases h.2 with ⟨rfl,h0⟩ | ⟨g,cap,cur,rfl,hb,hg,hnc,hcm,hcs,htake⟩
 ·omega
 ·refine ⟨g,cap,rfl,hb,fun i x hx=>?_⟩
  have:=flat_own (N:=N) (cap:=cap) (size:=1) hg htake i (.bool x) (by simp [hx])
  rwa [Nat.zero_add] at this
theorem BoolRow.ofBlk {N g:Nat} {l:List Bool} {w:World} (h:Blk w g (l.map (Value.bool)).toArray 4) (hN:N<=g) (hm:l.length<=9223372036854775807):BoolRow N (.slice (some ⟨g,0,none⟩) l.length l.length) l w :=
 ⟨by simp,.inr ⟨g,l.length,_,rfl,hN,h,Nat.le_refl _,by simpa [maxLen] using hm,by simp,by rw [Nat.mul_one];exact List.take_of_length_le (by simp)⟩⟩
theorem Bools.ext {w w':World} {v:Value} {l:List Bool} (h:Bools w v l) (hx:Ext w w'):Bools w' v l:=Sl.mono h fun _ _ _ _ q=>Has.ext q hx
theorem BoolRow.set {N g cap:Nat} {n:Nat} {l:List Bool} {w:World} (h:BoolRow N (.slice (some ⟨g,0,none⟩) n cap) l w) (j:Nat) (hj:j<l.length) (x:Bool) :
  BoolRow N (.slice (some ⟨g,0,none⟩) n cap) (l.set j x) (w.setCell ⟨g,j,none⟩ (.bool x)):=by
 rcases h.2 with ⟨e,h0⟩ | ⟨g',cap',cur,e,hb,hg,hnc,hcm,hcs,htake⟩
 ·cases e
 ·injection e with e1 e2 e3
  injection e1 with e1
  injection e1 with e1
  subst e1 e2 e3
  have hB:Blk w g cur 4:=hg
  refine ⟨by simp,.inr ⟨g,cap,cur.setIfInBounds j (.bool x),by rw [List.length_set],hb,hB.set j (.bool x),by rw [List.length_set];exact hnc,hcm,by rw [Array.size_setIfInBounds];exact hcs,?_⟩⟩
  rw [List.length_set,Array.toList_setIfInBounds,List.map_set,<-htake,List.take_set]
theorem BoolRow.bs0 (w:World) {N:Nat} (hN:N<=w.heap.size):BoolRow N (.slice (some ⟨w.heap.size,0,none⟩) 0 0) [] (w.alloc (.cells #[] 4)) :=
 ⟨rfl,.inr ⟨w.heap.size,0,#[],rfl,hN,Blk.new w #[] 4,Nat.le_refl _,by decide,rfl,rfl⟩⟩
theorem BoolRow.made {w:World} {N n:Nat} {x:Bool} (hN:N<=w.heap.size) (hn:n<=9223372036854775807):BoolRow N (.slice (some ⟨w.heap.size,0,none⟩) n n) (List.replicate n x) (w.alloc (.cells (List.replicate n (Value.bool x)).toArray 4)):=by
 have:=BoolRow.ofBlk (N:=N) (l:=List.replicate n x) (g:=w.heap.size) (w:=w.alloc (.cells (List.replicate n (Value.bool x)).toArray 4)) (by rw [List.map_replicate];exact Blk.new _ _ _) hN (by simpa using hn)
 simpa using this
theorem IntRow.set {N g cap:Nat} {n:Nat} {l:List Int} {w:World} (h:IntRow N (.slice (some ⟨g,0,none⟩) n cap) l w) (j:Nat) (hj:j<l.length) (x:Int) :
  IntRow N (.slice (some ⟨g,0,none⟩) n cap) (l.set j x) (w.setCell ⟨g,j,none⟩ (.int .i64 x)):=by
 rcases h.2 with ⟨e,h0⟩ | ⟨g',cap',cur,e,hb,hg,hnc,hcm,hcs,htake⟩
 ·cases e
 ·injection e with e1 e2 e3
  injection e1 with e1
  injection e1 with e1
  subst e1 e2 e3
  have hB:Blk w g cur 3:=hg
  refine ⟨by simp,.inr ⟨g,cap,cur.setIfInBounds j (.int .i64 x),by rw [List.length_set],hb,hB.set j (.int .i64 x),by rw [List.length_set];exact hnc,hcm,by rw [Array.size_setIfInBounds];exact hcs,?_⟩⟩
  rw [List.length_set,Array.toList_setIfInBounds,List.map_set,<-htake,List.take_set]
theorem Bools.cell {w:World} {a:Option Addr} {b o n cap:Nat} {l:List Bool} (h:Rows 1 (fun (x:Bool) b o=>Has w b o [.bool x]) l b o) {k:Nat} (hk:k<l.length):w.cell? ⟨b,o+k,none⟩=some (.bool l[k]):=by
 have:=h.get (List.getElem?_eq_getElem hk) 0 _ rfl
 simpa using this
theorem Ints.cell {w:World} {b o:Nat} {l:List Int} (h:Rows 1 (fun (x:Int) b o=>Has w b o [.int .i64 x]) l b o) {k:Nat} (hk:k<l.length):w.cell? ⟨b,o+k,none⟩=some (.int .i64 l[k]):=by
 have:=h.get (List.getElem?_eq_getElem hk) 0 _ rfl
 simpa using this
def doneM (d:Flat):List Int->List Nat->List Nat × Bool
 | [],v=>(v,true)
 | p::o,v=>if (runM d v p).2=0 then doneM d o (runM d v p).1 else ([],false)
theorem clkD_get {d:Flat} {p:Int} (h:p.toNat<d.procs.length):clkD d p=d.procs[p.toNat].clocked:=by
 unfold clkD;rw [List.getElem?_eq_getElem h];rfl
theorem sigs_kind12 (l:List Signal):∀ seen,sigsOk seen l=true->∀ x∈l,1<=x.kind/\x.kind<=4:=by
 induction l with
 | nil=>intro _ _ x hx;cases hx
 | cons y l ih =>
  intro seen h x hx
  rw [sigsOk,Bool.and_eq_true] at h
  rcases List.mem_cons.1 hx with e | hx
  ·have:=h.1
   unfold sigOk at this
   simp only [Bool.and_eq_true,decide_eq_true_eq] at this
   rw [e]
   exact ⟨this.1.1.2,this.1.2⟩
  ·exact ih _ h.2 x hx
theorem ord_of {d:Flat} (hok:d.ok) (hl:(lookM d).1=0):checkM d=0/\∃ by',drvM (nBits d).toNat (wsM d)=some by'/\OrdOk d by' (lookM d).2.2/\(∀ p,Pin d p->clkD d p=false->p∈(lookM d).2.2) /\
  (∀ p,Pin d p->clkD d p=false->(writesM d p).length=(alwaysM d p).length) /\
  (∀ k j:Nat,k<d.signals.length->(j:Int)<sigW d.signals (k:Int)->kindOf d.signals (k:Int)≠1->kindOf d.signals (k:Int)≠4->∃ q,Pin d q/\by'[(bn d.signals k j).toNat]? = some q):=by
 obtain ⟨hck,by',hd,hdm,hnone,hlat,-⟩:=lookM_zero hok hl
 have B:=behind hok hl hd
 have hp':∀ {p:Int},Pin d p->p.toNat<d.procs.length:=fun hp=>by have:=hp.1;have:=hp.2;omega
 refine ⟨hck,by',hdm,⟨fun i p hi=>?_,fun i p hi r hr q hq g1 g2=>?_⟩,fun p hp hc=>?_,fun p hp hc=>?_,fun k j hk hj h1 h4=>?_⟩
 ·obtain ⟨a,h,b,c⟩:=B.inr i p hi
  exact ⟨⟨a,by omega⟩,by rw [clkD_get h];exact b,c⟩
 ·exact (B.hang i p hi r hr q hq g1.1 (hp' g1) (by rw [<-clkD_get (hp' g1)];exact g2)).1
 ·have:=B.all p.toNat (hp' hp) (by rw [<-clkD_get (hp' hp)];exact hc)
  rwa [Int.toNat_of_nonneg hp.1] at this
 ·have:=latF_false hlat p.toNat (hp' hp) (by rw [<-clkD_get (hp' hp)];exact hc)
  rwa [Int.toNat_of_nonneg hp.1] at this
 ·have hls:=checkM_w hck
  have hs:sigW d.signals (k:Int)=d.signals[k].w:=by simp [sigW,List.getElem?_eq_getElem hk]
  have hkd:kindOf d.signals (k:Int)=d.signals[k].kind:=by simp [kindOf,List.getElem?_eq_getElem hk]
  have h3:=sumW_succ d.signals k hk
  have h0:=(sumW_le d.signals hls k (by omega)).1
  have hkr:1<=d.signals[k].kind/\d.signals[k].kind<=4:=by
   have h2:=checkM_shaped hck
   unfold shapedM at h2
   simp only [Bool.and_eq_true] at h2
   exact sigs_kind12 _ _ h2.1.1 _ (List.getElem_mem hk)
  obtain ⟨q,e1,e2,e3,-,-,e6⟩:=driven hok hl hd k hk (bn d.signals k j).toNat (by unfold bn;omega) (by unfold bn;omega)
  rw [hkd] at h1 h4
  obtain ⟨f1,-⟩:=e6 (by omega)
  exact ⟨q,⟨f1,e3⟩,e1⟩
def playE (d:Flat) (v:List Nat):Int:=if (lookM d).1=0 then (if valsOk d v=true then 0 else 1) else (lookM d).1
def reset1 (s:Signal):Nat:=if s.kind=4 then s.init.toNat else 0
def resetM (d:Flat):List Nat:=d.signals.map reset1
def putM:List Signal->List Nat->List Nat->Option (List Nat)
 | [],_,ins=>if ins=[] then some [] else none
 | s::ls,v,ins=>if s.kind=1 then (match ins with | []=>none | y::ins'=>if y<2^s.w.toNat then (putM ls v.tail ins').map (y::·) else none)
  else (putM ls v.tail ins).map (v.headD 0::·)
def settleM (d:Flat) (v:List Nat):List Nat:=runAll d (lookM d).2.2 v
def xorL (a b c:List Nat):List Nat:=(List.range a.length).map fun i=>a.getD i 0 ^^^ (b.getD i 0 ^^^ c.getD i 0)
def tick1 (d:Flat) (v nx:List Nat) (p:Nat):List Nat:=if clkD d (p:Int)=true then xorL nx v (runL d (p:Int) v) else nx
def tickM (d:Flat) (v:List Nat):List Nat:=(List.range d.procs.length).foldl (tick1 d v) v
def outV:List Signal->List Nat->List Nat
 | [],_=>[]
 | s::ls,v=>if s.kind=2 then v.headD 0::outV ls v.tail else outV ls v.tail
def chkV (d:Flat) (v:List Nat):List Bool:=d.checks.map fun c=>decide (evM v c.e=1)
def cycM (d:Flat):List (List Nat)->List Nat->Option (List (List Nat) × List (List Bool))
 | [],_=>some ([],[])
 | i::ins,v=>match putM d.signals v i with
  | none=>none
  | some w=>(cycM d ins (tickM d (settleM d w))).map fun r=>(outV d.signals (settleM d w)::r.1,chkV d (settleM d w)::r.2)
def cycR (d:Flat) (ins:List (List Nat)):List (List Nat) × List (List Bool) × Int :=
 if (lookM d).1=0 then (match cycM d ins (resetM d) with | none=>([],[],1) | some r=>(r.1,r.2,0)) else ([],[],(lookM d).1)
def putR (d:Flat) (v ins:List Nat):List Nat × Int :=
 if playE d v=0 then (match putM d.signals v ins with | none=>([],1) | some r=>(r,0)) else ([],playE d v)
def settleR (d:Flat) (v:List Nat):List Nat × Int:=if playE d v=0 then (settleM d v,0) else ([],playE d v)
def tickR (d:Flat) (v:List Nat):List Nat × Int:=if playE d v=0 then (tickM d v,0) else ([],playE d v)
def resetR (d:Flat):List Nat × Int:=if (lookM d).1=0 then (resetM d,0) else ([],(lookM d).1)
def outsR (d:Flat) (v:List Nat):List Nat × List Bool × Int:=if playE d v=0 then (outV d.signals v,chkV d v,0) else ([],[],playE d v)
theorem playE_zero {d:Flat} {v:List Nat}:playE d v=0↔(lookM d).1=0/\valsOk d v=true:=by
 unfold playE
 by_cases h:(lookM d).1=0
 ·rw [if_pos h]
  by_cases h2:valsOk d v=true
  ·simp [h,h2]
  ·rw [if_neg h2];simp [h2]
 ·rw [if_neg h];simp [h]
/-! ### values stay values -/
theorem look_in {d:Flat} (hok:d.ok) (hl:(lookM d).1=0):checkM d=0/\∀ p∈(lookM d).2.2,Pin d p/\clkD d p=false:=by
 obtain ⟨hck,by',hdm,H,-⟩:=ord_of hok hl
 refine ⟨hck,fun p hp=>?_⟩
 obtain ⟨i,hi,rfl⟩:=List.getElem_of_mem hp
 have:=H.inr i _ (List.getElem?_eq_getElem hi)
 exact ⟨this.1,this.2.1⟩
theorem Val2.get {ls:List Signal} {v:List Nat} (h:Val2 ls v) {k:Nat} (hk:k<ls.length):v.getD k 0<2^(sigW ls (k:Int)).toNat:=by
 have:=h.2 (k:Int) (by omega) (by omega)
 rwa [Int.toNat_natCast] at this
theorem Val2.mk {ls:List Signal} {v:List Nat} (h1:v.length=ls.length) (h2:∀ k:Nat,k<ls.length->v.getD k 0<2^(sigW ls (k:Int)).toNat):Val2 ls v :=
 ⟨h1,fun s h0 hs=>by
  obtain ⟨k,rfl⟩:=Int.eq_ofNat_of_zero_le h0
  rw [Int.toNat_natCast]
  exact h2 k (by omega)⟩
theorem Val2.cons {s:Signal} {ls:List Signal} {x:Nat} {v:List Nat} (hx:x<2^s.w.toNat) (h:Val2 ls v):Val2 (s::ls) (x::v):=by
 refine Val2.mk (by simp [h.1]) fun k hk=>?_
 cases k with
 | zero=>exact hx
 | succ k =>
  have:=h.get (k:=k) (by simpa using hk)
  simpa [sigW] using this
theorem xorL_len (a b c:List Nat):(xorL a b c).length=a.length:=by simp [xorL]
theorem xorL_get (a b c:List Nat) {k:Nat} (hk:k<a.length):(xorL a b c).getD k 0=a.getD k 0 ^^^ (b.getD k 0 ^^^ c.getD k 0):=by
 unfold xorL
 rw [List.getD_eq_getElem?_getD,List.getElem?_map,List.getElem?_range hk];rfl
theorem xorL_val {ls:List Signal} {a b c:List Nat} (ha:Val2 ls a) (hb:Val2 ls b) (hc:Val2 ls c):Val2 ls (xorL a b c) :=
 Val2.mk (by rw [xorL_len];exact ha.1) fun k hk=>by
  rw [xorL_get _ _ _ (by rw [ha.1];exact hk)]
  exact Nat.xor_lt_two_pow (ha.get hk) (Nat.xor_lt_two_pow (hb.get hk) (hc.get hk))
theorem tick1_val {d:Flat} (hok:d.ok) (hc:checkM d=0) {v nx:List Nat} (hv:Val2 d.signals v) (hn:Val2 d.signals nx) {p:Nat} (hp:p<d.procs.length):Val2 d.signals (tick1 d v nx p):=by
 unfold tick1
 split
 ·exact xorL_val hn hv (run_kept hok hc (by omega) (by omega) hv).1
 ·exact hn
theorem ticks_val {d:Flat} (hok:d.ok) (hc:checkM d=0) {v:List Nat} (hv:Val2 d.signals v):∀ (l:List Nat),(∀ p∈l,p<d.procs.length)->∀ nx,Val2 d.signals nx->Val2 d.signals (l.foldl (tick1 d v) nx):=by
 intro l
 induction l with
 | nil=>intro _ nx h;exact h
 | cons p l ih=>intro hm nx h;exact ih (fun q hq=>hm q (by simp [hq])) _ (tick1_val hok hc hv h (hm p (by simp)))
theorem tick_val {d:Flat} (hok:d.ok) (hc:checkM d=0) {v:List Nat} (hv:Val2 d.signals v):Val2 d.signals (tickM d v):=ticks_val hok hc hv _ (fun p hp=>List.mem_range.1 hp) v hv
/-! ### CycleAhead -/
theorem cyc_ahead (d:Flat):∀ (ins more:List (List Nat)) (v:List Nat),(cycM d ins v=none->cycM d (ins++more) v=none) /\
  ∀ a b,cycM d ins v=some (a,b)->a.length=ins.length/\b.length=ins.length/\∀ c g,cycM d (ins++more) v=some (c,g)->c.length=ins.length+more.length/\g.length=c.length/\c.take a.length=a/\g.take b.length=b:=by
 have hlen:∀ (l:List (List Nat)) (v:List Nat) r,cycM d l v=some r->r.1.length=l.length/\r.2.length=l.length:=by
  intro l
  induction l with
  | nil=>intro v r h;rw [cycM] at h;cases h;exact ⟨rfl,rfl⟩
  | cons i l ih =>
   intro v r h
   rw [cycM] at h
   split at h
   ·cases h
   ·obtain ⟨q,hq,rfl⟩:=Option.map_eq_some_iff.1 h
    have:=ih _ _ hq
    simp [this]
 intro ins
 induction ins with
 | nil =>
  intro more v
  refine ⟨fun h=>(by rw [cycM] at h;cases h),fun a b h=>?_⟩
  rw [cycM] at h
  cases h
  refine ⟨rfl,rfl,fun c g h=>?_⟩
  have:=hlen _ _ _ h
  simp at this ⊢
  omega
 | cons i ins ih =>
  intro more v
  rw [List.cons_append,cycM,cycM]
  cases hp:putM d.signals v i with
  | none=>exact ⟨fun _=>rfl,fun a b h=>by cases h⟩
  | some w =>
   simp only
   obtain ⟨h1,h2⟩:=ih more (tickM d (settleM d w))
   refine ⟨fun h=>?_,fun a b h=>?_⟩
   ·rw [Option.map_eq_none_iff] at h ⊢;exact h1 h
   ·obtain ⟨q,hq,he⟩:=Option.map_eq_some_iff.1 h
    injection he with e1 e2
    subst e1 e2
    obtain ⟨a1,a2,a3⟩:=h2 q.1 q.2 hq
    refine ⟨by simp [a1],by simp [a2],fun c g h=>?_⟩
    obtain ⟨q',hq',he⟩:=Option.map_eq_some_iff.1 h
    injection he with e1 e2
    subst e1 e2
    obtain ⟨b1,b2,b3,b4⟩:=a3 q'.1 q'.2 hq'
    refine ⟨by simp [b1];omega,by simp [b2],by simp [b3],by simp [b4]⟩
/-! ### CycleRests -/
/-! ### CycleAny: swept again and again -/
def Fix (d:Flat) (o:List Int) (n:Nat) (x:Int):Prop:=∀ p,Pin d p->clkD d p=false->x∈writesM d p->p∈o.take n
/-! ### CycleTicks -/
/-! ### CyclePuts -/
def inN (ls:List Signal) (k:Nat):Nat:=((ls.take k).filter fun s=>decide (s.kind=1)).length
theorem one_writer {d:Flat} (hok:d.ok) (hl:(lookM d).1=0) {p q:Int} (hp:Pin d p) (hq:Pin d q) {x:Int} (h1:x∈writesM d p) (h2:x∈writesM d q):p=q:=by
 obtain ⟨hck,by',hdm,-⟩:=ord_of hok hl
 have e1:=((drives_iff hok hck hdm hp).1 h1).2
 rw [((drives_iff hok hck hdm hq).1 h2).2] at e1
 injection e1 with e1
 exact e1.symm
theorem ticks_bit {d:Flat} (hok:d.ok) (hl:(lookM d).1=0) {v:List Nat} (hv:Val2 d.signals v) {k j:Nat} (hk:k<d.signals.length) (hj:(j:Int)<sigW d.signals (k:Int)) :
  ∀ (l:List Nat),l.Nodup->(∀ p∈l,p<d.procs.length)->∀ nx,Val2 d.signals nx ->
   (∀ p∈l,clkD d (p:Int)=true->bn d.signals k j∈writesM d (p:Int)->((l.foldl (tick1 d v) nx).getD k 0).testBit j=(((nx.getD k 0).testBit j) ^^ (((v.getD k 0).testBit j) ^^ (((runL d (p:Int) v).getD k 0).testBit j)))) /\
   ((∀ p∈l,clkD d (p:Int)=true->¬ bn d.signals k j∈writesM d (p:Int))->((l.foldl (tick1 d v) nx).getD k 0).testBit j=(nx.getD k 0).testBit j):=by
 have hck:=(look_in hok hl).1
 have one:∀ p,p<d.procs.length->∀ nx,Val2 d.signals nx->((tick1 d v nx p).getD k 0).testBit j=if clkD d (p:Int)=true then (((nx.getD k 0).testBit j) ^^ (((v.getD k 0).testBit j) ^^ (((runL d (p:Int) v).getD k 0).testBit j))) else (nx.getD k 0).testBit j:=by
  intro p hp nx hn
  unfold tick1
  split
  ·rw [xorL_get _ _ _ (by rw [hn.1];exact hk),Nat.testBit_xor,Nat.testBit_xor]
  ·rfl
 have still:∀ p,p<d.procs.length->¬ bn d.signals k j∈writesM d (p:Int)->((v.getD k 0).testBit j)=(((runL d (p:Int) v).getD k 0).testBit j):=fun p hp hw =>
  (run_kept hok hck (by omega) (by omega) hv).2 k j hk hj fun h=>hw ((mem_writesM d _ _).2 h)
 intro l
 induction l with
 | nil=>intro _ _ nx _;exact ⟨fun p hp=>(by cases hp),fun _=>rfl⟩
 | cons q l ih =>
  intro hnd hm nx hn
  obtain ⟨n1,n2⟩:=List.nodup_cons.1 hnd
  have hq:=hm q (by simp)
  have hn':=tick1_val hok hck hv hn hq
  obtain ⟨i1,i2⟩:=ih n2 (fun p hp=>hm p (by simp [hp])) _ hn'
  refine ⟨fun p hp hc hw=>?_,fun h=>?_⟩
  ·rw [List.foldl_cons]
   rcases List.mem_cons.1 hp with rfl | hp'
   ·rw [i2 fun r hr hrc hrw=>?_,one _ hq nx hn,if_pos hc]
    have:=one_writer hok hl (p:=(p:Int)) (q:=(r:Int)) ⟨by omega,by omega⟩ ⟨by omega,by have:=hm r (by simp [hr]);omega⟩ hw hrw
    have e:p=r:=by omega
    exact n1 (e ▸ hr)
   ·rw [i1 p hp' hc hw,one _ hq nx hn]
    split
    ·rw [<-still q hq fun hqw=>?_]
     ·simp
     ·have:=one_writer hok hl (p:=(p:Int)) (q:=(q:Int)) ⟨by omega,by have:=hm p (by simp [hp']);omega⟩ ⟨by omega,by omega⟩ hw hqw
      have e:p=q:=by omega
      exact n1 (e ▸ hp')
    ·rfl
  ·rw [List.foldl_cons,i2 (fun p hp=>h p (by simp [hp])),one _ hq nx hn]
   split
   ·rename_i hc
    rw [<-still q hq (h q (by simp) hc)];simp
   ·rfl
theorem tick_bit {d:Flat} (hok:d.ok) (hl:(lookM d).1=0) {v:List Nat} (hv:Val2 d.signals v) {k j:Nat} (hk:k<d.signals.length) (hj:(j:Int)<sigW d.signals (k:Int)) :
  (∀ p:Nat,p<d.procs.length->clkD d (p:Int)=true->bn d.signals k j∈writesM d (p:Int)->((tickM d v).getD k 0).testBit j=((runL d (p:Int) v).getD k 0).testBit j) /\
  ((∀ p:Nat,p<d.procs.length->clkD d (p:Int)=true->¬ bn d.signals k j∈writesM d (p:Int))->((tickM d v).getD k 0).testBit j=(v.getD k 0).testBit j):=by
 obtain ⟨h1,h2⟩:=ticks_bit hok hl hv hk hj (List.range d.procs.length) List.nodup_range (fun p hp=>List.mem_range.1 hp) v hv
 refine ⟨fun p hp hc hw=>?_,fun h=>h2 fun p hp=>h p (List.mem_range.1 hp)⟩
 have:=h1 p (List.mem_range.2 hp) hc hw
 unfold tickM
 rw [this];simp
def TkD (d:Flat) (p:Nat) (wl:List Int) (i k:Nat) (k' j:Nat):Prop :=
 (∃ q:Nat,q<p/\clkD d (q:Int)=true/\bn d.signals k' j∈writesM d (q:Int))\/(∃ i',i'<i/\wl[i']? = some (bn d.signals k' j))\/(wl[i]? = some (bn d.signals k' j)/\k'<k)
def TkInv (ls:List Signal) (v t:List Nat) (D:Nat->Nat->Prop) (L:List Nat):Prop :=
 Val2 ls L/\∀ k j:Nat,k<ls.length->(j:Int)<sigW ls (k:Int)->(L.getD k 0).testBit j=(v.getD k 0).testBit j\/((L.getD k 0).testBit j=(t.getD k 0).testBit j/\¬ D k j)
theorem TkInv.weak {ls:List Signal} {v t L:List Nat} {D D':Nat->Nat->Prop} (h:TkInv ls v t D L) (hd:∀ k j:Nat,k<ls.length->(j:Int)<sigW ls (k:Int)->D' k j->D k j):TkInv ls v t D' L :=
 ⟨h.1,fun k j hk hj=>(h.2 k j hk hj).imp_right fun ⟨a,b⟩=>⟨a,fun c=>b (hd k j hk hj c)⟩⟩
theorem TkInv.take {ls:List Signal} (hls:∀ x∈ls,x.w<=64) {v t L:List Nat} {D D':Nat->Nat->Prop} (h:TkInv ls v t D L) (hv:Val2 ls v) {k j:Nat} (hk:k<ls.length) (hj:(j:Int)<sigW ls (k:Int))
  (hd:∀ k' j':Nat,k'<ls.length->(j':Int)<sigW ls (k':Int)->D' k' j'->D k' j'\/(k'=k/\j'=j)):TkInv ls v t D' (L.set k (takeW (L.getD k 0) (v.getD k 0) j)):=by
 obtain ⟨h1,h2⟩:=takeV_ok hls h.1 hv hk hj
 refine ⟨h1,fun k' j' hk' hj'=>?_⟩
 rw [h2 k' j' hk']
 by_cases e:k'=k/\j'=j
 ·rw [if_pos e];exact .inl (by rw [e.1,e.2])
 ·rw [if_neg e]
  exact (h.2 k' j' hk' hj').imp_right fun ⟨a,b⟩=>⟨a,fun c=>(hd k' j' hk' hj' c).elim b e⟩
theorem tk_start (d:Flat) {v t:List Nat} (ht:Val2 d.signals t):TkInv d.signals v t (TkD d 0 [] 0 0) t :=
 ⟨ht,fun k j _ _=>.inr ⟨rfl,fun h=>by
  rcases h with ⟨q,hq,-⟩ | ⟨i,hi,-⟩ | ⟨h,-⟩
  ·omega
  ·omega
  ·simp at h⟩⟩
theorem tk_begin {d:Flat} {v t L:List Nat} {p:Nat} (wl:List Int) (h:TkInv d.signals v t (TkD d p [] 0 0) L):TkInv d.signals v t (TkD d p wl 0 0) L :=
 h.weak fun k j _ _ hh=>hh.imp_right fun h=>by
  rcases h with ⟨i,hi,-⟩ | ⟨-,h⟩<;>omega
theorem tk_next {d:Flat} {v t L:List Nat} {p:Nat} {wl:List Int} {i:Nat} (h:TkInv d.signals v t (TkD d p wl i d.signals.length) L):TkInv d.signals v t (TkD d p wl (i+1) 0) L :=
 h.weak fun k j hk _ hh=>hh.imp_right fun h=>by
  rcases h with ⟨i',hi,e⟩ | ⟨-,h⟩
  ·by_cases c:i'=i
   ·subst c;exact .inr ⟨e,hk⟩
   ·exact .inl ⟨i',by omega,e⟩
  ·omega
theorem tk_ended {d:Flat} {v t L:List Nat} {p:Nat} {wl:List Int} (hw:wl=writesM d (p:Int)) (h:TkInv d.signals v t (TkD d p wl wl.length 0) L):TkInv d.signals v t (TkD d (p+1) [] 0 0) L :=
 h.weak fun k j hk _ hh=>by
  rcases hh with ⟨q,hq,hc,hm⟩ | ⟨i',hi,-⟩ | ⟨-,h⟩
  ·by_cases c:q=p
   ·subst c
    rw [<-hw] at hm
    obtain ⟨i,hi,e⟩:=List.getElem_of_mem hm
    exact .inr (.inl ⟨i,hi,by rw [List.getElem?_eq_getElem hi,e]⟩)
   ·exact .inl ⟨q,by omega,hc,hm⟩
  ·omega
  ·omega
theorem tk_idle {d:Flat} {v t L:List Nat} {p:Nat} (hc:clkD d (p:Int)=false) (h:TkInv d.signals v t (TkD d p [] 0 0) L):TkInv d.signals v t (TkD d (p+1) [] 0 0) L :=
 h.weak fun k j hk _ hh=>by
  rcases hh with ⟨q,hq,hc',hm⟩ | ⟨i',hi,-⟩ | ⟨-,h⟩
  ·by_cases c:q=p
   ·subst c;rw [hc] at hc';exact absurd hc' (by decide)
   ·exact .inl ⟨q,by omega,hc',hm⟩
  ·omega
  ·omega
theorem tk_skip {d:Flat} (hls:∀ x∈d.signals,1<=x.w/\x.w<=64) {v t L:List Nat} {p:Nat} {wl:List Int} {i k kk j:Nat} (hkk:kk<d.signals.length) (hj:(j:Int)<sigW d.signals (kk:Int)) (hi:wl[i]? = some (bn d.signals kk j)) (hne:k≠kk)
  (h:TkInv d.signals v t (TkD d p wl i k) L):TkInv d.signals v t (TkD d p wl i (k+1)) L :=
 h.weak fun k' j' hk' hj' hh=>hh.imp_right fun h=>h.imp_right fun ⟨e,hlt⟩=>by
  rw [hi] at e
  injection e with e
  obtain ⟨rfl,rfl⟩:=bn_inj hls hkk hk' hj hj' e
  exact ⟨hi,by omega⟩
theorem tk_take {d:Flat} (hls:∀ x∈d.signals,1<=x.w/\x.w<=64) {v t L:List Nat} {p:Nat} {wl:List Int} {i kk j:Nat} (hv:Val2 d.signals v) (hkk:kk<d.signals.length) (hj:(j:Int)<sigW d.signals (kk:Int)) (hi:wl[i]? = some (bn d.signals kk j))
  (h:TkInv d.signals v t (TkD d p wl i kk) L):TkInv d.signals v t (TkD d p wl i (kk+1)) (L.set kk (takeW (L.getD kk 0) (v.getD kk 0) j)) :=
 h.take (fun x hx=>(hls x hx).2) hv hkk hj fun k' j' hk' hj' hh=>by
  rcases hh with h | h | ⟨e,hlt⟩
  ·exact .inl (.inl h)
  ·exact .inl (.inr (.inl h))
  ·rw [hi] at e
   injection e with e
   obtain ⟨rfl,rfl⟩:=bn_inj hls hkk hk' hj hj' e
   exact .inr ⟨rfl,rfl⟩
theorem tk_all {d:Flat} (hok:d.ok) (hl:(lookM d).1=0) {v L:List Nat} (hv:Val2 d.signals v) (h:TkInv d.signals v (tickM d v) (TkD d d.procs.length [] 0 0) L):L=v :=
 vals_ext h.1 hv fun k j hk hj=>by
  rcases h.2 k j hk hj with h | ⟨h,hn⟩
  ·exact h
  ·rw [h]
   exact (tick_bit hok hl hv hk hj).2 fun p hp hc hm=>hn (.inl ⟨p,hp,hc,hm⟩)
theorem tk_and {a b j:Nat} (h:a.testBit j=b.testBit j):a &&& 2^j=b &&& 2^j :=
 Nat.eq_of_testBit_eq fun i=>by
  rw [Nat.testBit_and,Nat.testBit_and,Nat.testBit_two_pow]
  by_cases e:j=i
  ·subst e;rw [h]
  ·simp [e]
theorem tk_where {ls:List Signal} (hls:∀ x∈ls,1<=x.w/\x.w<=64) {kk j k:Nat} (hkk:kk<ls.length) (hj:(j:Int)<sigW ls (kk:Int)) (hk:k<ls.length) :
  (k<kk->¬ bn ls kk j<sumW ls k/\sumW ls (k+1)<=bn ls kk j)/\(k=kk->¬ bn ls kk j<sumW ls k/\¬ sumW ls (k+1)<=bn ls kk j)/\(kk<k->bn ls kk j<sumW ls k):=by
 have hs:sigW ls (kk:Int)=ls[kk].w:=by simp [sigW,List.getElem?_eq_getElem hkk]
 have h3:=sumW_succ ls kk hkk
 unfold bn
 refine ⟨fun h=>?_,fun h=>?_,fun h=>?_⟩
 ·have h1:=sumW_mono ls hls k kk (by omega) (by omega)
  have h2:=sumW_mono ls hls (k+1) kk (by omega) (by omega)
  omega
 ·subst h;omega
 ·have h1:=sumW_mono ls hls (kk+1) k (by omega) (by omega)
  omega
end Go.Proofs.YtoaamjgfhppppaaGreat
