/- Laws and walks that a claim of this seat leans on: Numbers, SameE. -/
import Derived.Test.YtpngepnfinbaoaaGreatC06
import Derived.Test.YtpngepnfinbaoaaGreatCStmtS
import Derived.Test.YtpngepnfinbaoaaGreatC05
import Derived.Test.YtpngepnfinbaoaaGreatC03
import Derived.Test.YtpngepnfinbaoaaGreatC00
set_option maxRecDepth 100000
set_option maxHeartbeats 8000000
set_option linter.all false
namespace Go.Proofs.YtpngepnfinbaoaaGreat
open Go.RowKit
/-! ### numbers: the bits of these spans, rising -/
def numsOf (offs:List Int) (s:Span):List Int:=(List.range (s.hi-s.lo+1).toNat).map fun (j:Nat)=>offs.getD s.sig.toNat 0+(s.lo+(j:Int))
def allNums (offs:List Int) (xs:List Span):List Int:=(xs.map (numsOf offs)).flatten
def numbersM (offs:List Int) (xs:List Span):List Int:=Lib.compact (sortI (allNums offs xs))
def NumOk (offs:List Int) (s:Span):Prop:=0<=s.sig/\s.sig<offs.length/\0<=s.lo/\s.lo<=64/\s.hi<=63
theorem numsOf_length (offs:List Int) (s:Span) (h:NumOk offs s):(numsOf offs s).length<=64:=by
 unfold NumOk at h
 simp [numsOf];omega
theorem allNums_length (offs:List Int) (xs:List Span) (h:∀ s∈xs,NumOk offs s):(allNums offs xs).length<=64*xs.length:=by
 induction xs with
 | nil=>simp [allNums]
 | cons x xs ih =>
  have h1:=numsOf_length offs x (h x (by simp))
  have h2:=ih fun s hs=>h s (by simp [hs])
  simp only [allNums,List.map_cons,List.flatten_cons,List.length_append,List.length_cons] at h2 ⊢
  omega
theorem numbers_calls (offs:List Int) (xs:List Span) (ov pv:Value) (w:World) (ho:Ints w ov offs) (hp:Spans w pv xs) (hok:∀ s∈xs,NumOk offs s) (hob:∀ o∈offs,0<=o/\o<=1099511627776) (hlen:xs.length<=1073741824) :
  Calls Tryz.prog 34 #[ov,pv] w fun r w'=>∃ v,r=.returned v/\IntRow w.heap.size v (numbersM offs xs) w'/\Ext w w':=by
 obtain ⟨ao,bo,oo,co,rfl,hco1,hco2,hao,hor⟩:=ho.open
 obtain ⟨ap,bp,op,cp,rfl,hcp1,hcp2,hap,hpr⟩:=hp.open
 have HOK:=Jh hok
 have HOB:=Jh hob
 have HAO:=Jh hao
 have HAP:=Jh hap
 have HOR:=Jh hor
 have HPR:=Jh hpr
 clear hok hob hao hap hor hpr ho hp
 go_enter Tryz.func34,Tryz.ntmps34
 go_wp2_with fail
 refine wp_loop (fun a wr=>∃ (k:Nat) (u x7 x8 x12 x13 x14 x15 x16 x17 x18 x19 x20 x21 x22 x23 x24 x25 x26 x27 x28 x29 x30 x31 x32 x33 x34 x35 x36 x37:Value),a=⟨#[.slice ao offs.length co,.slice ap xs.length cp,undef,undef,.slice Option.none 0 0,u,undef,x7,x8,.slice ap xs.length cp,.int .i64 xs.length,.int .i64 (k:Int),x12,x13,x14,x15,x16,x17,x18,x19,x20,x21,x22,x23,x24,x25,x26,x27,x28,x29,x30,x31,x32,x33,x34,x35,x36,x37],[]⟩ /\
  k<=xs.length/\IntRow w.heap.size u (allNums offs (xs.take k)) wr/\Ext w wr) (fun a _=>xs.length-(intOf (a.tmps.getD 11 undef)).toNat)
  ⟨0,_,_,_,_,_,_,_,_,_,_,_,_,_,_,_,_,_,_,_,_,_,_,_,_,_,_,_,_,_,rfl,Nat.zero_le _,IntRow.nil _ _,Below.refl _ _⟩ ?_
 rintro a wr ⟨k,u,x7,x8,x12,x13,x14,x15,x16,x17,x18,x19,x20,x21,x22,x23,x24,x25,x26,x27,x28,x29,x30,x31,x32,x33,x34,x35,x36,x37,rfl,hk,hrow,hx⟩
 have HROW:=Jh hrow
 have HX:=Jh hx
 have hsz:=hx.size
 obtain ⟨au,cu,hu,hun⟩:=hrow.open
 obtain ⟨ln,hln⟩:∃ ln,(allNums offs (xs.take k)).length=ln:=⟨_,rfl⟩
 have hlnb:ln<=64*k:=by
  rw [<-hln]
  refine Nat.le_trans (allNums_length offs _ fun s hs=>HOK.out s (List.mem_of_mem_take hs)) ?_
  simp;omega
 rw [hln] at hu
 clear hrow hx hun
 subst hu
 by_cases hlt:k<xs.length
 ·obtain rfl:=HAP.out (by omega)
  have hhas:Has w bp (op+k*3) xs[k].cells:=HPR.out.get (List.getElem?_eq_getElem hlt)
  have hnok:=HOK.out _ (List.getElem_mem hlt)
  have hstep:allNums offs (xs.take (k+1))=allNums offs (xs.take k)++numsOf offs xs[k]:=by
   unfold allNums
   rw [take_snoc _ _ hlt,List.map_append,List.flatten_append]
   simp only [List.map_cons,List.map_nil,List.flatten_cons,List.flatten_nil,List.append_nil]
  generalize xs[k]=s at *
  generalize allNums offs (xs.take k)=pre at *
  have HSTEP:=Jh hstep
  have HH1:=Jh (hhas.ext HX.out)
  clear hstep hhas
  obtain ⟨n1,n2,n3,n4,n5⟩:=hnok
  have hx4:=ext_alloc wr (.cells s.cells.toArray 81)
  have hb4:=Blk.new wr s.cells.toArray 81
  have hr4:=HROW.out.ext hx4
  have hs4:(wr.alloc (.cells s.cells.toArray 81)).heap.size=wr.heap.size+1:=by simp
  go_upto_region 5 with (first | ((with_reducible show Jl 81);refine Jm 81 (HH1.out) agg_span rfl ?_) | ((with_reducible show Js 81);refine wpList_store_new rfl 81 _ _ rfl rfl (by first | rfl | simp) rfl agg_span (rfl) rfl (by simp [one_int]) ?_))
  generalize wr.alloc _=w4 at *
  have g2:=hb4.has 2 _ rfl
  go_wp2_with fail
  clear g2
  refine wp_loop (fun a wi=>∃ (j:Nat) (ii:Int) (v y17 y18 y19 y20 y21 y22 y23 y24 y25 y26 y27 y28 y29 y30 y31 y32:Value),a=⟨#[.slice ao offs.length co,.slice (some ⟨bp,op,Option.none⟩) xs.length cp,undef,undef,.slice Option.none 0 0,v,undef,.pointer (some ⟨wr.heap.size,0,Option.none⟩),.int .i64 ii,.slice (some ⟨bp,op,Option.none⟩) xs.length cp,.int .i64 xs.length,.int .i64 (k:Int),.bool true,.pointer (some ⟨bp,op+k*3,Option.none⟩),.agg s.cells.toArray,.pointer (some ⟨wr.heap.size,2,Option.none⟩),.int .i64 s.lo,y17,y18,y19,y20,y21,y22,y23,y24,y25,y26,y27,y28,y29,y30,y31,y32,x33,x34,x35,x36,x37],[]⟩ /\
   ii=s.lo+j/\j<=(s.hi-s.lo+1).toNat/\IntRow w.heap.size v (pre++(numsOf offs s).take j) wi/\Ext w wi/\Blk wi wr.heap.size s.cells.toArray 81) (fun a _=>((s.hi-s.lo+1)-((intOf (a.tmps.getD 8 undef))-s.lo)).toNat)
   ⟨0,s.lo,_,_,_,_,_,_,_,_,_,_,_,_,_,_,_,_,_,rfl,by simp,Nat.zero_le _,by simpa using hr4,HX.out.trans hx4,hb4⟩ ?_
  rintro a wi ⟨j,ii,v,y17,y18,y19,y20,y21,y22,y23,y24,y25,y26,y27,y28,y29,y30,y31,y32,rfl,hii,hj,hrow5,hx5,hb5⟩
  have hsz5:=hx5.size
  obtain ⟨av,cv,hv,hvn⟩:=hrow5.open
  have hlvb:(pre++(numsOf offs s).take j).length<=ln+j:=by rw [List.length_append,hln];simp;omega
  have hnl:(numsOf offs s).length=(s.hi-s.lo+1).toNat:=by simp [numsOf]
  obtain ⟨lv,hlv⟩:∃ lv,(pre++(numsOf offs s).take j).length=lv:=⟨_,rfl⟩
  rw [hlv] at hv hlvb
  subst hv
  have HR5:=Jh hrow5
  have HX5:=Jh hx5
  have HB5:=Jh hb5
  have HLV:=Jh hlv
  clear hrow5 hx5 hlv hvn
  have g1:=hb5.has 1 _ rfl
  have g0:=hb5.has 0 _ rfl
  by_cases hjl:ii<=s.hi
  ·have hjlt:j<(numsOf offs s).length:=by omega
   obtain ⟨q,hq⟩:∃ q:Nat,s.sig=q:=⟨s.sig.toNat,by omega⟩
   have hqlt:q<offs.length:=by omega
   obtain rfl:=HAO.out (by omega)
   have goff:wi.cell? ⟨bo,oo+q,Option.none⟩=some (.int .i64 offs[q]):=by
    have:=((HOR.out.get (List.getElem?_eq_getElem hqlt)).ext HX5.out) 0 _ rfl
    simpa using this
   have hob:=HOB.out _ (List.getElem_mem hqlt)
   have hval:(numsOf offs s)[j]=offs[q]+ii:=by simp [numsOf,hq,List.getElem?_eq_getElem hqlt,hii]
   have htk:=take_snoc (numsOf offs s) j hjlt
   rw [hval] at htk
   generalize offs[q]=oq at *
   have HTK:=Jh htk
   rw [hq] at g0
   clear htk hval
   have HII:=Jh hii
   have hii2:ii<=63/\0<=ii:=by omega
   clear hii
   have hx6:=ext_alloc wi (.cells [Value.int .i64 (oq+ii)].toArray 3)
   have hb6:=Blk.new wi [Value.int .i64 (oq+ii)].toArray 3
   have hr6:=HR5.out.ext hx6
   go_wp2_with (first | ((with_reducible show Jw (Op.buildSlice _ _ _));refine wpList_bs1 rfl _ _ rfl appInt rfl (cs:=[Value.int .i64 (oq+ii)]) rfl rfl (by decide) ?_) | ((with_reducible show Jw (Op.call { callee:=.builtin .append,args:=_,argTypes:=_ }));refine Hid.out ?_))
   refine Jh ?_
   have hii:=HII.out
   have hs6:(wi.alloc (.cells [Value.int .i64 (oq+ii)].toArray 3)).heap.size=wi.heap.size+1:=by simp
   refine wpList_appI (m:=1) (news:=[oq+ii]) rfl _ _ rfl rfl hr6 rfl (fun _=>Nat.lt_of_lt_of_le Nat.zero_lt_one (Nat.le_refl 1)) rfl (news_has hb6.has) (by rw [HLV.out];omega) (by omega) ?_
   intro g7 cap7 w7 hrow7 hg7
   generalize wi.alloc _=w6 at *
   have hb7:Blk w7 wr.heap.size s.cells.toArray 81:=(hg7.block _ (HB5.out.ext hx6).lt (fun e=>hr6.ne (HB5.out.ext hx6) rfl e.symm rfl)).trans (HB5.out.ext hx6)
   have hx7:Ext w w7:=Ext.grownO (HX5.out.trans hx6) hg7 (fun k hk=>(hr6.at hk).1)
   rw [List.append_assoc,<-HTK.out] at hrow7
   clear hlvb g0 g1 goff hb6 hr6 hx6 hs6 hg7 hii
   generalize (pre++(numsOf offs s).take j).length+1=l7 at *
   go_wp2_with fail
   have hii:=HII.out
   exact ⟨⟨j+1,ii+1,_,_,_,_,_,_,_,_,_,_,_,_,_,_,_,_,_,rfl,by omega,by omega,hrow7,hx7,hb7⟩,by simp [intOf];omega⟩
  ·have hje:j=(numsOf offs s).length:=by omega
   have hrow':IntRow w.heap.size (.slice av lv cv) (allNums offs (xs.take (k+1))) wi:=by
    rw [HSTEP.out]
    have:=HR5.out
    rw [hje,List.take_length] at this
    exact this
   have HRW:=Jh hrow'
   clear hrow' g0
   go_wp2_with fail
   exact ⟨⟨k+1,_,⟨rfl,by omega⟩,by omega,HRW.out,HX5.out⟩,by simp [intOf];omega⟩
 ·obtain rfl:k=xs.length:=by omega
  rw [List.take_length] at HROW hln
  go_wp2_with (first
   | (go_at_call 68;refine (sort_calls _ _ _ _ HROW.out (by omega)).mono ?_;rintro r w2 ⟨rfl,hr2,hg2⟩;have hx2:Ext w w2:=Ext.grownO HX.out hg2 (fun k hk=>(HROW.out.at hk).1);have HR2:=Jh hr2;clear hr2 hg2)
   | (go_at_call 69;refine (compact_calls _ _ _ _ HR2.out).mono ?_;rintro r w3 ⟨v3,rfl,ho3,hr3,hg3⟩;have hx3:Ext w w3:=Ext.grownO hx2 hg3 (fun k hk=>(HR2.out.at hk).1);have HR3:=Jh hr3;clear hr3 hg3))
  go_ret
  exact ⟨_,rfl,HR3.out,hx3⟩
theorem appSignal:AppT Tryz.prog 22 50 4 40:=⟨Tryz.underlying22,by kernel_rfl,by decide,by decide⟩
theorem VSignal.at {W:World} {cs:List Value} {x:Signal} {b o:Nat} (h:Has W b o cs) (hv:VSignal W cs x):SigAt W x b o:=by
 subst hv;exact h
theorem sigs_flat {w:World} (l:List Signal):∀ (b o:Nat),Rows 4 (SigAt w) l b o->Has w b o (l.map Signal.cells).flatten:=by
 induction l with
 | nil=>intro b o _ j u hj;simp at hj
 | cons x l ih =>
  intro b o h j u hj
  rw [List.map_cons,List.flatten_cons] at hj
  by_cases hlt:j<x.cells.length
  ·rw [List.getElem?_append_left hlt] at hj
   exact h.1 j u hj
  ·rw [List.getElem?_append_right (by omega)] at hj
   have:=ih b (o+4) h.2 (j-4) u hj
   have h4:x.cells.length=4:=rfl
   rw [show o+j=o+4+(j-4) by omega];exact this
theorem sigs_len (l:List Signal):(l.map Signal.cells).flatten.length=l.length*4:=by
 induction l with
 | nil=>rfl
 | cons x l ih=>rw [List.map_cons,List.flatten_cons,List.length_append,ih];show 4+l.length*4=(l.length+1)*4;omega
theorem sigs_one (l:List Signal):(l.map Signal.cells).flatten.all (·.oneCell')=true:=by
 rw [List.all_eq_true]
 intro v hv
 obtain ⟨cs,hcs,hv⟩:=List.mem_flatten.1 hv
 obtain ⟨x,-,rfl⟩:=List.mem_map.1 hcs
 have:x.cells.all (·.oneCell')=true:=rfl
 exact List.all_eq_true.1 this v hv
def ClonePost (w:World) (l:List Signal) (r:Ending) (w':World):Prop:=∃ a cap,r=.returned (.slice a l.length cap)/\Ext w w'/\∀ W,Since w.heap.size w' W->Sigs W (.slice a l.length cap) l
theorem Clone_calls (l:List Signal) (s:Value) (w:World) (h:Sigs w s l) (hl:l.length<=1048576) :
  Calls Tryz.prog 44 #[s] w (ClonePost w l):=by
 obtain ⟨a,b,o,cap,hs,hc1,hc2,ha,hr⟩:=h.open
 subst hs
 have hnil:=fun W=>Lib.run_eql_slice_nil (P:=Tryz.prog) W 22 50 a l.length cap 0 0 Tryz.underlying22
 cases a with
 | none =>
  have h0:l.length=0:=by
   by_cases hh:0<l.length
   ·have:=ha hh;cases this
   ·omega
  have H0:=Jh h0
  clear h0 ha hr h
  go_enter Tryz.func44,Tryz.ntmps44
  go_wp2_with fail
  go_ret
  obtain rfl:l=[]:=List.eq_nil_of_length_eq_zero H0.out
  exact ⟨Option.none,0,rfl,Below.refl _ _,fun W _=>Sl.nil _ _⟩
 | some ad =>
  have HR:=Jh hr
  have HA:=Jh ha
  have HX:=Jh (ext_alloc w (.cells #[] 50))
  have hown:=Jh (World.ownsRow_made (size:=4) (base:=w.heap.size) (e:=50) w #[] 0 (Nat.le_refl _) (by decide) rfl)
  have hcells:∀ j u,(l.map Signal.cells).flatten[j]? = some u->(w.alloc (.cells #[] 50)).cell? (ad.add j)=some u:=by
   intro j u hj
   have hlt:j<l.length*4:=by rw [<-sigs_len];exact (List.getElem?_eq_some_iff.1 hj).1
   have hpos:0<l.length:=by omega
   obtain rfl:=Option.some.inj (HA.out hpos)
   have hadd:(⟨b,o,none⟩:Addr).add j=⟨b,o+j,none⟩:=by unfold Addr.add;split<;>simp_all
   rw [hadd]
   exact ((sigs_flat l b o HR.out).ext HX.out) j u hj
  have HC:=Jh hcells
  clear hcells hr ha h
  go_enter Tryz.func44,Tryz.ntmps44
  go_wp2_with (first | ((with_reducible show Jw (Op.buildSlice _ _ _));refine wpList_bs0 rfl _ rfl appSignal ?_) | ((with_reducible show Jw (Op.call { callee:=.builtin .append,args:=_,argTypes:=_ }));refine wpList_app rfl _ _ _ rfl appSignal rfl hown.out rfl (fun h=>by cases h) (sigs_len l) HC.out (sigs_one l) (by omega) (by simp) ?_;rw [Nat.zero_add];intro g4 cap4 w4 hrow4 hg4 hgg))
  go_ret
  have hgx:Ext w w4:=Below.grown HX.out hg4 HX.out.size (fun k hk=>by cases hk;exact Nat.le_refl _)
  refine ⟨_,cap4,rfl,hgx,fun W hW=>?_⟩
  refine RowIs.sl (V:=VSignal) (At:=SigAt) (e:=50) (N:=w.heap.size) (w:=w4) (fun _ _ _ _ _ h hv=>VSignal.at h hv) ?_ hW
  refine ⟨l.map Signal.cells,by simpa using hrow4,by simp,?_,?_⟩
  ·intro cs h;obtain ⟨x,-,rfl⟩:=List.mem_map.1 h;rfl
  ·intro i hi hi' W _ _
   simp [VSignal]
def sameProcs (a b:List Proc):Bool:=allEq2 eqP a b
def sameChecks (a b:List Chk):Bool:=allEq2 eqC a b
theorem Same_calls (x y:Flat) (v v':Value) (w:World) (h:FlatV w v x) (h':FlatV w v' y) (hs:x.signals=y.signals) :
  Calls Tryz.prog 21 #[v,v'] w fun r w'=>r=.returned (.bool (sameProcs x.procs y.procs&&sameChecks x.checks y.checks))/\Ext w w':=by
 obtain ⟨sv,pv,cv,rfl,hS,hP,hC⟩:=h
 obtain ⟨sv',pv',cv',rfl,hS',hP',hC'⟩:=h'
 rw [<-hs] at hS'
 clear hs
 obtain ⟨p2,h2⟩:∃ p,sameProcs x.procs y.procs=p:=⟨_,rfl⟩
 have h2':allEq2 eqP x.procs y.procs=p2:=h2
 rw [h2]
 have hX1:=ext_alloc w (.cells [sv,pv,cv].toArray 26)
 have hX2:=ext_alloc (w.alloc (.cells [sv,pv,cv].toArray 26)) (.cells [sv',pv',cv'].toArray 26)
 have hb1:=(Has.alloc w [sv,pv,cv] 26).ext hX2
 have hb2:=Has.alloc (w.alloc (.cells [sv,pv,cv].toArray 26)) [sv',pv',cv'] 26
 rw [World.size_alloc] at hb2
 have hX:=hX1.trans hX2
 have hq1:=fun W (hx:Ext _ W)=>SignalsEqual_calls x.signals sv sv' W ((hS.ext hX).ext hx) ((hS'.ext hX).ext hx)
 have hq2:=fun W (hx:Ext _ W)=>EqualFunc_Proc 47 eqP x.procs y.procs pv pv' W ((hP.ext hX).ext hx) ((hP'.ext hX).ext hx) leads_Same1
  (fun wr hx k hk hk' cs cs' h h'=>Same1_calls _ _ cs cs' wr h h')
 have hq3:=fun W (hx:Ext _ W)=>EqualFunc_Check 50 eqC x.checks y.checks cv cv' W ((hC.ext hX).ext hx) ((hC'.ext hX).ext hx) leads_Same2
  (fun wr hx k hk hk' cs cs' h h'=>Same2_calls _ _ cs cs' wr h h')
 obtain ⟨xs,bs,os,caps,e1,-,-,-,-⟩:=hS.open
 obtain ⟨ap,bp,op,capp,e2,-,-,-,-⟩:=hP.open
 obtain ⟨ac,bc,oc,capc,e3,-,-,-,-⟩:=hC.open
 obtain ⟨xs',bs',os',caps',e1',-,-,-,-⟩:=hS'.open
 obtain ⟨ap',bp',op',capp',e2',-,-,-,-⟩:=hP'.open
 obtain ⟨ac',bc',oc',capc',e3',-,-,-,-⟩:=hC'.open
 subst e1;subst e2;subst e3;subst e1';subst e2';subst e3'
 rw [h2'] at hq2
 clear hX1 hX2 hS hP hC hS' hP' hC' h2 h2'
 go_enter Tryz.func21,Tryz.ntmps21
 go_upto_region 1 with fail
 generalize (w.alloc _).alloc _=w0 at *
 have Q1:=Jh hq1
 have Q2:=Jh hq2
 have Q3:=Jh hq3
 have B1:=Jh hb1
 have B2:=Jh hb2
 clear hq1 hq2 hq3 hb1 hb2
 have a0:=B1.out 0 _ rfl
 have c0:=B2.out 0 _ rfl
 cases p2
 ·go_wp2_with (first | (go_at_call 52;refine (Q1.out _ (Below.refl _ _)).mono ?_;rintro r w1 ⟨rfl,hx1⟩;have a1:=(B1.out.ext hx1) 1 _ rfl;have c1:=(B2.out.ext hx1) 1 _ rfl) | (go_at_call 53;refine (Q2.out _ hx1).mono ?_;rintro r w2 ⟨rfl,hx2⟩))
  all_goals go_ret
  all_goals exact ⟨rfl,hX.trans (hx1.trans hx2)⟩
 ·go_wp2_with (first | (go_at_call 52;refine (Q1.out _ (Below.refl _ _)).mono ?_;rintro r w1 ⟨rfl,hx1⟩;have a1:=(B1.out.ext hx1) 1 _ rfl;have c1:=(B2.out.ext hx1) 1 _ rfl) | (go_at_call 53;refine (Q2.out _ hx1).mono ?_;rintro r w2 ⟨rfl,hx2⟩;have a2:=(B1.out.ext (hx1.trans hx2)) 2 _ rfl;have c2:=(B2.out.ext (hx1.trans hx2)) 2 _ rfl) | (go_at_call 54;refine (Q3.out _ (hx1.trans hx2)).mono ?_;rintro r w3 ⟨rfl,hx3⟩))
  all_goals go_ret
  all_goals exact ⟨ret_bool (by rw [Bool.true_and];rfl),hX.trans ((hx1.trans hx2).trans hx3)⟩
end Go.Proofs.YtpngepnfinbaoaaGreat
