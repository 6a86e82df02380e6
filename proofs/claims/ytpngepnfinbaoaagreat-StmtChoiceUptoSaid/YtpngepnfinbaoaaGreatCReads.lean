/- Laws and walks that a claim of this seat leans on: Reads. -/
import Derived.Test.YtpngepnfinbaoaaGreatCWrites
import Derived.Test.YtpngepnfinbaoaaGreatC00
set_option maxRecDepth 100000
set_option maxHeartbeats 8000000
set_option linter.all false
namespace Go.Proofs.YtpngepnfinbaoaaGreat
open Go.RowKit
/-! ### stmt.Reads$1: the bits that statements read -/
def rS (ls:List Signal) (ts:List T) (n:Nat):List Span:=((ts.take n).map fun t=>(t.e.map (partsE ls)).flatten).flatten
theorem rS_succ (ls:List Signal) (ts:List T) (n:Nat) (t:T) (h:ts[n]? = some t):rS ls ts (n+1)=rS ls ts n++(t.e.map (partsE ls)).flatten:=by
 obtain ⟨hn,rfl⟩:=List.getElem?_eq_some_iff.1 h
 unfold rS
 rw [take_snoc _ _ hn,List.map_append,List.flatten_append]
 simp only [List.map_cons,List.map_nil,List.flatten_cons,List.flatten_nil,List.append_nil]
theorem rS_le (ls:List Signal) (ts:List T) (n:Nat):∃ post,rS ls ts ts.length=rS ls ts n++post:=by
 unfold rS
 refine ⟨((ts.drop n).map fun t=>(t.e.map (partsE ls)).flatten).flatten,?_⟩
 rw [<-List.flatten_append,<-List.map_append,List.take_append_drop,List.take_length]
theorem Reads1_calls (ls:List Signal) (hls:∀ x∈ls,1<=x.w/\x.w<=64) (offs:List Int) (L:List T) (ov lv sv pv cv:Value) (D:Nat) (w:World) (ho:Ints w ov offs) (hl:Ts w lv L) (hS:Sigs w sv ls) (h3:[sv,pv,cv].all (·.oneCell')=true)
  (hD:Blk w D [sv,pv,cv].toArray 26) (hio:∀ t∈eachT.eachTs L,∀ e∈t.e,IndOk ls e)
  (hok:∀ s∈rS ls (eachT.eachTs L) (eachT.eachTs L).length,NumOk offs s) (hob:∀ o∈offs,0<=o/\o<=1099511627776) (hlen:(rS ls (eachT.eachTs L) (eachT.eachTs L).length).length<=1048576) :
  Calls Tryz.prog 30 #[ov,lv,.pointer (some ⟨D,0,none⟩)] w fun r w'=>∃ v,r=.returned v/\IntRow w.heap.size v (numbersM offs (rS ls (eachT.eachTs L) (eachT.eachTs L).length)) w'/\Ext w w':=by
 obtain ⟨xs,hxs,hseqs⟩:=each1_seq L w lv hl
 have hone:=hl.one
 have hxl:=hxs.len
 have hDw:=hD.lt
 have HXS:=Jh hxs
 have HOK:=Jh hok
 have HOB:=Jh hob
 have HO:=Jh ho
 have HS:=Jh hS
 have H3:=Jh h3
 have HLS:=Jh hls
 have HIO:=Jh hio
 obtain ⟨B6,hB6⟩:∃ y,w.heap.size=y:=⟨_,rfl⟩
 have hx1:=ext_alloc w (.cells #[.slice Option.none 0 0] 75)
 have hb1:=Blk.new w #[.slice Option.none 0 0] 75
 have hs1:(w.alloc (.cells #[.slice Option.none 0 0] 75)).heap.size=w.heap.size+1:=by simp
 clear hxs hok hob ho hl hS h3 hls hio
 refine callsIn_wide.1 (callsIn_of_wp_marks (n:=0) Tryz.func30 rfl trivial ?_);rw [wpIn_wide];simp only [Tryz.ntmps30,List.size_toArray,List.length_cons,List.length_nil,Nat.reduceAdd,Nat.reduceSub,Array.replicate_succ,Array.replicate_zero,List.push_toArray,List.append_toArray,List.nil_append,List.cons_append]
 go_upto_region 2 with fail
 generalize w.alloc _=w1 at *
 rw [hB6] at hs1 hb1
 have HONE:=Jh hone
 clear hone
 go_wp2_with (first | (go_at_call 31;refine (each_calls lv HONE.out _).mono ?_;rintro r w2 ⟨rfl,rfl⟩))
 have hx2:=ext_alloc w1 (.cells #[lv] 34)
 have hb2:=Blk.new w1 #[lv] 34
 have hs2:(w1.alloc (.cells #[lv] 34)).heap.size=w1.heap.size+1:=by simp
 rw [hs1] at hb2 hs2
 generalize w1.alloc _=w2 at *
 have hX2:=hx1.trans hx2
 have hb12:=hb1.ext hx2
 have hH2:Hard B6 w w2:=Hard.of_ext hX2 (by omega)
 have hseq:=hseqs B6 w2 (B6+1) (by omega) hX2 hb2 (by omega)
 have HSEQ:=Jh hseq
 have HD:=Jh hD
 clear hseq hseqs hb2 hD
 have hI:OwnFrom w2.heap.size (fun (pre:List (List Value)) (Wx:World)=>∃ (zs:List Span) (u:Value),zs=rS ls (eachT.eachTs L) pre.length/\Blk Wx B6 #[u] 75/\SpRow B6 u zs Wx/\Hard B6 w Wx/\B6<Wx.heap.size):=by
  rintro pre A B row ⟨zs,u,h1,h2,h3,h4,h5⟩ hg hr
  exact ⟨zs,u,h1,own_blk h2 hg hr,own_row h3 hg hr,own_hard h4 (by omega) (by omega) hg hr,own_size h5 hg⟩
 refine wp_range (n0:=B6) rfl leads_each1 HSEQ.out rfl (by omega)
  (fun pre Wx=>∃ (zs:List Span) (u:Value),zs=rS ls (eachT.eachTs L) pre.length/\Blk Wx B6 #[u] 75/\SpRow B6 u zs Wx/\Hard B6 w Wx/\B6<Wx.heap.size) hI
  ⟨[],_,by simp [rS],hb12,SpRow.nil _ _,hH2,by omega⟩
  (fun pre x aM Wx=>(∃ (zs:List Span) (u:Value),zs=rS ls (eachT.eachTs L) pre.length/\Blk Wx B6 #[u] 75/\SpRow B6 u zs Wx/\Hard B6 w Wx/\B6<Wx.heap.size)/\∃ (U:Nat) (t:T) (v1 v2:Value),x=t.cells v1 v2/\Blk Wx U x.toArray 39/\aM=⟨#[ov,lv,.pointer (some ⟨D,0,Option.none⟩),undef,undef,.slice Option.none 0 0,.pointer (some ⟨B6,0,Option.none⟩),.pointer (some ⟨U,0,Option.none⟩),undef,undef,lv,.func (.func 66) #[] #[.pointer (some ⟨B6+1,0,Option.none⟩)],.agg x.toArray,undef,undef,undef,undef,undef,undef,undef,undef,undef,undef,undef,undef,undef,undef,undef,undef],[]⟩)
  (fun pre x aM s A B row hs hg hr=>⟨hI pre A B row hs.1 hg hr,by
   obtain ⟨U,t,v1,v2,h1,h2,h3⟩:=hs.2
   exact ⟨U,t,v1,v2,h1,own_blk h2 hg hr,h3⟩⟩) ?assign ?body ?done
 case assign =>
  rintro l' m pre x Wx ⟨zs,u,h1,h2,h3,h4,h5⟩ ⟨post',hxp⟩ hsz
  obtain ⟨t,-,v1,v2,rfl,hv1,hv2⟩:=(show Eaches w (eachT.eachTs L) (pre++x::post') by rw [<-hxp];exact HXS.out).at
  refine regionIn_of_list (r:=some l') (by kernel_rfl) (by rintro ⟨_,_,h⟩;exact h) ?_
  have hxu:=ext_alloc Wx (.cells (t.cells v1 v2).toArray 39)
  have hbu:=Blk.new Wx (t.cells v1 v2).toArray 39
  go_wp2_with (first | ((with_reducible show Js 39);refine wpList_store_new rfl 39 _ _ rfl rfl (by first | rfl | simp) rfl agg_T (rfl) rfl (by simp [hv1.one,hv2.one,one_int]) ?_))
  exact ⟨keepsFrom_ext hxu,Hard.of_ext hxu (by omega),⟨zs,u,h1,h2.ext hxu,h3.ext hxu,h4.trans (Hard.of_ext hxu (by omega)),by simp;omega⟩,Wx.heap.size,t,v1,v2,rfl,hbu,rfl⟩
 case body =>
  rintro l' m pre x aM Wx ⟨⟨zs,u,h1,h2,h3,h4,h5⟩,U,t,v1,v2,rfl,hU,rfl⟩ ⟨post',hxp⟩ hsz
  obtain ⟨t',ht',v1',v2',hte,hv1,hv2⟩:=(show Eaches w (eachT.eachTs L) (pre++t.cells v1 v2::post') by rw [<-hxp];exact HXS.out).at
  obtain ⟨-,-,-,-,hq1,hq2⟩:t.op=t'.op/\t.sig=t'.sig/\t.hi=t'.hi/\t.lo=t'.lo/\v1=v1'/\v2=v2':=by simpa [T.cells] using hte
  subst hq1
  subst hq2
  have hstep:=rS_succ ls _ _ _ ht'
  rw [<-h1] at hstep
  obtain ⟨post,hpost⟩:=rS_le ls (eachT.eachTs L) (pre.length+1)
  have hioT:=HIO.out t' (List.mem_of_getElem? ht')
  have HPOST:=Jh hpost
  have HSTEP:=Jh hstep
  have H1:=Jh h1
  have HIOT:=Jh hioT
  have HV1:=Jh hv1
  have HXT:=Jh h4
  obtain ⟨ae,be,oe,ce,hve,hce1,hce2,hae,her⟩:=hv1.open
  subst hve
  have HAE:=Jh hae
  have HER:=Jh her
  clear ht' hte hstep h1 hpost hioT hv1 hv2 hae her
  refine wpIn_block ?_
  refine wpIn_seq ?_
  refine regionIn_of_list (r:=some l') (by kernel_rfl) (by rintro ⟨_,_,h⟩;exact h) ?_
  have g4:=hU.has 4 _ rfl
  go_wp2_with fail
  clear g4
  show Code.wpIn _ _ _ _ _ _ _
  refine wpIn_block ?_
  refine wpIn_loop (fun a wr=>∃ (k:Nat) (u x9 x17 x18 x19 x20 x21 x22 x23 x24 x25:Value),a=⟨#[ov,lv,.pointer (some ⟨D,0,Option.none⟩),undef,undef,.slice Option.none 0 0,.pointer (some ⟨B6,0,Option.none⟩),.pointer (some ⟨U,0,Option.none⟩),undef,x9,lv,.func (.func 66) #[] #[.pointer (some ⟨B6+1,0,Option.none⟩)],.agg (t.cells (.slice ae t'.e.length ce) v2).toArray,.pointer (some ⟨U,4,Option.none⟩),.slice ae t'.e.length ce,.int .i64 t'.e.length,.int .i64 k,x17,x18,x19,x20,x21,x22,x23,x24,x25,undef,undef,undef],[]⟩ /\
   k<=t'.e.length/\Blk wr B6 #[u] 75/\SpRow B6 u (zs++((t'.e.take k).map (partsE ls)).flatten) wr/\Hard B6 Wx wr/\KeepsFrom w2.heap.size Wx wr/\Wx.heap.size<=wr.heap.size) (fun a _=>t'.e.length-(intOf (a.tmps.getD 16 undef)).toNat)
   ⟨0,_,_,_,_,_,_,_,_,_,_,_,rfl,Nat.zero_le _,h2,by simpa using h3,Hard.refl _ _,KeepsFrom.refl _ _,Nat.le_refl _⟩ ?_
  clear h2 h3
  rintro a wr ⟨k,u,x9,x17,x18,x19,x20,x21,x22,x23,x24,x25,rfl,hk,h2,h3,hHk,hKk,hsk⟩
  obtain ⟨au,cu,hu⟩:=h3.open
  subst hu
  obtain ⟨n,hn⟩:∃ n,(zs++((t'.e.take k).map (partsE ls)).flatten).length=n:=⟨_,rfl⟩
  rw [hn] at h2 h3
  have HHK:=Jh (HXT.out.trans hHk)
  have HXK:=Jh (HHK.out.below.mono (B':=w.heap.size) (by omega))
  refine wpIn_seq ?_
  refine regionIn_of_list (r:=some l') (by kernel_rfl) (by rintro ⟨_,_,h⟩;exact h) ?_
  by_cases hlt:k<t'.e.length
  ·obtain ⟨s1,hhas,hes⟩:=Es.get HER.out hlt
   obtain rfl:=HAE.out (by omega)
   have hps:=take_snoc t'.e k hlt
   have hik:=HIOT.out _ (List.getElem_mem hlt)
   generalize t'.e[k]=ek at *
   obtain ⟨pk,hpk⟩:∃ pk,partsE ls ek=pk:=⟨_,rfl⟩
   have HPK:=Jh hpk
   have HPS:=Jh hps
   have HES:=Jh hes
   have HIK:=Jh hik
   have HH1:=Jh (hhas.ext HXK.out)
   have HN:=Jh hn
   clear hps hik hes hhas hpk hn
   go_wp2_with fail
   show Code.wpIn _ _ _ _ _ _ _
   refine wpIn_seq ?_
   refine wpIn_cond_true rfl ?_
   refine wpIn_skip ?_
   show Code.wpIn _ _ _ _ _ _ _
   refine wpIn_seq ?_
   refine wpIn_block ?_
   refine wpIn_seq ?_
   refine regionIn_of_list (r:=some l') (by kernel_rfl) (by rintro ⟨_,_,h⟩;exact h) ?_
   have hxu:=ext_alloc wr (.cells (ek.cells s1).toArray 31)
   have hbu:=Blk.new wr (ek.cells s1).toArray 31
   have hsu:(wr.alloc (.cells (ek.cells s1).toArray 31)).heap.size=wr.heap.size+1:=by simp
   go_wp2_with (first | ((with_reducible show Jl 31);refine Jm 31 (HH1.out) agg_E rfl ?_) | ((with_reducible show Js 31);refine wpList_store_new rfl 31 _ _ rfl rfl (by first | rfl | simp) rfl agg_E (rfl) rfl (by simp [HES.out.one,one_int]) ?_))
   show Code.wpIn _ _ _ _ _ _ _
   obtain ⟨zz,hzz⟩:∃ zz,zs++((t'.e.take k).map (partsE ls)).flatten=zz:=⟨_,rfl⟩
   rw [hzz] at h3
   have HZZ:=Jh hzz
   clear hzz
   have hlz:zz.length=n:=by rw [<-HZZ.out];exact HN.out
   have hzn:zz++pk=zs++((t'.e.take (k+1)).map (partsE ls)).flatten:=by
    rw [HPS.out,<-HZZ.out,List.map_append,List.flatten_append]
    simp only [List.map_cons,List.map_nil,List.flatten_cons,List.flatten_nil,List.append_nil,List.append_assoc,HPK.out]
   have hzb:zz.length+pk.length<=1048576:=by
    have e1:=congrArg List.length HPOST.out
    rw [HSTEP.out,List.length_append,List.length_append] at e1
    have e2:=congrArg List.length hzn
    rw [List.length_append,List.length_append] at e2
    have e3:((t'.e.take (k+1)).map (partsE ls)).flatten.length<=(t'.e.map (partsE ls)).flatten.length:=by
     conv=>rhs;rw [<-List.take_append_drop (k+1) t'.e,List.map_append,List.flatten_append,List.length_append]
     omega
    omega
   have HZN:=Jh hzn
   clear hzn
   have hBX:=(h2.ext hxu).drew
   have hRW:SpRow B6 (.slice au n cu) zz (wr.alloc (.cells (ek.cells s1).toArray 31)).drew:=(h3.ext hxu).ext (Below.drew (Below.refl _ _))
   have hHD:Hard B6 Wx (wr.alloc (.cells (ek.cells s1).toArray 31)).drew:=(hHk.trans (Hard.of_ext hxu (by omega))).trans (Hard.drew _)
   have hKF:KeepsFrom w2.heap.size Wx (wr.alloc (.cells (ek.cells s1).toArray 31)).drew:=(hKk.trans (keepsFrom_ext hxu)).trans (keepsFrom_ext (Below.drew (Below.refl _ _)))
   have hDD:Blk (wr.alloc (.cells (ek.cells s1).toArray 31)).drew D [sv,pv,cv].toArray 26:=((HHK.out.blk HD.out (by decide)).ext hxu).drew
   have hEE:Blk (wr.alloc (.cells (ek.cells s1).toArray 31)).drew wr.heap.size (ek.cells s1).toArray 31:=hbu.drew
   have hsz0:(wr.alloc (.cells (ek.cells s1).toArray 31)).drew.heap.size=wr.heap.size+1:=by rw [World.heap_drew];exact hsu
   have HSZ0:=Jh hsz0
   have hsz1:wr.heap.size<(wr.alloc (.cells (ek.cells s1).toArray 31)).drew.heap.size:=by omega
   clear hsz0
   clear hxu hbu hsu h2 h3
   refine regionIn_held (S:=fun W3=>Blk W3 D [sv,pv,cv].toArray 26/\Blk W3 wr.heap.size (ek.cells s1).toArray 31) (by kernel_rfl) (by kernel_rfl) (by rintro ⟨_,_,h⟩;exact h) ⟨hDD,hEE⟩ (fun hH=>?_)
   generalize (wr.alloc _).drew=W0 at *
   try simp only [J]
   (refine Jt 1 (.agg #[sv,pv,cv]) rfl (yif_load rfl 26 _ rfl rfl (fun _ h=>Blk.has h.1) agg_Flat rfl) hH ?_;try simp only [J])
   (refine Jt 2 (.agg (ek.cells s1).toArray) rfl (yif_load rfl 31 _ rfl rfl (fun _ h=>Blk.has h.2) agg_E rfl) hH ?_;try simp only [J])
   refine wpAnyH_ready (rs:=[0,3]) (by kernel_rfl) (by simp) ?_
   refine AllReadyH.cons rfl (fun K hK=>?_) (AllReadyH.cons rfl (fun K hK=>?_) AllReadyH.nil)
   ·have x0:=hBX.has 0 _ rfl
    go_simp
    refine hK.out _ _ hH (fun hH=>?_)
    clear hK K x0
    try simp only [J]
    refine Jr 3 rfl fun K hK=>?_
    go_simp
    refine (parts_calls _ sv pv cv rfl H3.out ek s1 HES.out.one _).mono ?_
    rintro r w6 ⟨E6,D6,hE6e,hD6e,rfl,hw6⟩
    have hx6:=(ext_alloc W0 (.cells [sv,pv,cv].toArray 26)).trans (ext_alloc _ (.cells (ek.cells s1).toArray 31))
    have hbD:=(Blk.new W0 [sv,pv,cv].toArray 26).ext (ext_alloc _ (.cells (ek.cells s1).toArray 31))
    have hbE:=Blk.new (W0.alloc (.cells [sv,pv,cv].toArray 26)) (ek.cells s1).toArray 31
    rw [show (W0.alloc (.cells [sv,pv,cv].toArray 26)).heap.size=W0.heap.size+1 by simp,<-hE6e] at hbE
    rw [<-hD6e] at hbD
    rw [<-hw6] at hx6 hbD hbE
    clear hw6
    replace hBX:=hBX.ext hx6
    replace hRW:=hRW.ext hx6
    have hzz:=hHD.below.size
    replace hHD:=hHD.trans (Hard.of_ext hx6 (by omega))
    replace hKF:=hKF.trans (keepsFrom_ext hx6)
    have hseq:Seq Tryz.prog B6 67 #[.pointer (some ⟨E6,0,none⟩),.pointer (some ⟨D6,0,none⟩)] (pk.map Span.cells) w6:=by rw [<-HPK.out];exact parts1_seq ls HLS.out ek B6 w w6 sv pv cv s1 D6 E6 HS.out HES.out H3.out (by omega) ((HXT.out.trans hHD).ext (Below.refl _ _) (by omega)) hbD hbE (by have:=hHD.below.size;omega) HIK.out
    have HSEQ:=Jh hseq
    clear hE6e hD6e
    refine hK.out _ _ ⟨hH.1.ext hx6,hH.2.ext hx6⟩ (fun hH=>?_)
    clear hK K hx6 hseq hbD hbE
    try simp only [J]
    refine Jr 4 rfl fun K hK=>?_
    go_simp
    refine (appendSeq_calls leads_parts1 B6 (.slice au n cu) zz pk w6 (by have:=hHD.below.size;omega) HSEQ.out hRW (by omega) hBX (by decide)).mono ?_
    rintro r w7 ⟨v7,rfl,hrow7,hh7,hk7,hbx7⟩
    have hd7:=hh7.blk hH.1 (by decide)
    have he7:=hh7.blk hH.2 (by decide)
    replace hHD:=hHD.trans hh7
    replace hKF:=hKF.trans (keepsFrom_up hk7 (Nat.zero_le _))
    refine hK.out _ _ ⟨hd7,he7⟩ (fun hH=>?_)
    clear hK K hRW hBX hd7 he7 hh7 hk7
    have hRW:=hrow7
    have hBX:=hbx7
    clear hrow7 hbx7
    try simp only [J]
    refine Jr 5 rfl fun K hK=>?_
    have x0:=hBX.has 0 _ rfl
    have y0:=hBX.frozen 0
    obtain ⟨a7,c7,hv7⟩:=hRW.open
    obtain ⟨n7,hn7⟩:∃ n7,(zz++pk).length=n7:=⟨_,rfl⟩
    rw [hn7] at hv7
    subst hv7
    have hset:=hBX.set 0 (.slice a7 n7 c7)
    have hgs:=gb_set w7 B6 0 (.slice a7 n7 c7)
    have hr8:=hRW.grown hgs (fun k hk e=>hRW.ne hBX hk (by cases e;rfl))
    have hH8:=hHD.trans (Hard.of_gb hgs (by have:=hHD.below.size;omega) fun k hk=>by cases hk;exact ⟨by omega,fun c t f hc=>by rw [show w7.heap[B6]? = _ from hBX] at hc;cases hc;rfl⟩)
    have hK8:=hKF.trans (keepsFrom_gb hgs fun k hk=>by cases hk;exact ⟨_,_,_,hBX⟩)
    go_simp
    refine hK.out _ _ ⟨Blk.grown (B':=B6) hH.1 hgs (by rintro rfl;have q:=hH.1.symm.trans hBX;injection q with q;injection q with _ q;exact absurd q (by decide)),Blk.grown (B':=B6) hH.2 hgs (by rintro rfl;have q:=hH.2.symm.trans hBX;injection q with q;injection q with _ q;exact absurd q (by decide))⟩ (fun hH=>?_)
    clear hK K x0 y0
    refine Jz ?_
    show Code.wpIn _ _ _ _ _ _ _
    refine regionIn_of_list (r:=some l') (by kernel_rfl) (by rintro ⟨_,_,h⟩;exact h) ?_
    rw [HZN.out] at hr8
    have HR8:=Jh hr8
    have HS8:=Jh hset
    have hz8:=hH8.below.size
    clear hr8 hset
    go_wp2_with fail
    exact ⟨⟨k+1,⟨_,_,_,_,_,_,_,_,_,_,rfl⟩,by omega,_,HS8.out,by have:=HR8.out;rw [List.map_take] at this;exact this,hH8,by first | exact hK8 | (rw [<-hs2];exact hK8),by omega⟩,by simp [intOf];omega⟩
   ·go_simp
    refine (parts_calls _ sv pv cv rfl H3.out ek s1 HES.out.one _).mono ?_
    rintro r w6 ⟨E6,D6,hE6e,hD6e,rfl,hw6⟩
    have hx6:=(ext_alloc W0 (.cells [sv,pv,cv].toArray 26)).trans (ext_alloc _ (.cells (ek.cells s1).toArray 31))
    have hbD:=(Blk.new W0 [sv,pv,cv].toArray 26).ext (ext_alloc _ (.cells (ek.cells s1).toArray 31))
    have hbE:=Blk.new (W0.alloc (.cells [sv,pv,cv].toArray 26)) (ek.cells s1).toArray 31
    rw [show (W0.alloc (.cells [sv,pv,cv].toArray 26)).heap.size=W0.heap.size+1 by simp,<-hE6e] at hbE
    rw [<-hD6e] at hbD
    rw [<-hw6] at hx6 hbD hbE
    clear hw6
    replace hBX:=hBX.ext hx6
    replace hRW:=hRW.ext hx6
    have hzz:=hHD.below.size
    replace hHD:=hHD.trans (Hard.of_ext hx6 (by omega))
    replace hKF:=hKF.trans (keepsFrom_ext hx6)
    have hseq:Seq Tryz.prog B6 67 #[.pointer (some ⟨E6,0,none⟩),.pointer (some ⟨D6,0,none⟩)] (pk.map Span.cells) w6:=by rw [<-HPK.out];exact parts1_seq ls HLS.out ek B6 w w6 sv pv cv s1 D6 E6 HS.out HES.out H3.out (by omega) ((HXT.out.trans hHD).ext (Below.refl _ _) (by omega)) hbD hbE (by have:=hHD.below.size;omega) HIK.out
    have HSEQ:=Jh hseq
    clear hE6e hD6e
    refine hK.out _ _ ⟨hH.1.ext hx6,hH.2.ext hx6⟩ (fun hH=>?_)
    clear hK K hx6 hseq hbD hbE
    try simp only [J]
    refine Jr 0 rfl fun K hK=>?_
    have x0:=hBX.has 0 _ rfl
    go_simp
    refine hK.out _ _ hH (fun hH=>?_)
    clear hK K x0
    try simp only [J]
    refine Jr 4 rfl fun K hK=>?_
    go_simp
    refine (appendSeq_calls leads_parts1 B6 (.slice au n cu) zz pk w6 (by have:=hHD.below.size;omega) HSEQ.out hRW (by omega) hBX (by decide)).mono ?_
    rintro r w7 ⟨v7,rfl,hrow7,hh7,hk7,hbx7⟩
    have hd7:=hh7.blk hH.1 (by decide)
    have he7:=hh7.blk hH.2 (by decide)
    replace hHD:=hHD.trans hh7
    replace hKF:=hKF.trans (keepsFrom_up hk7 (Nat.zero_le _))
    refine hK.out _ _ ⟨hd7,he7⟩ (fun hH=>?_)
    clear hK K hRW hBX hd7 he7 hh7 hk7
    have hRW:=hrow7
    have hBX:=hbx7
    clear hrow7 hbx7
    try simp only [J]
    refine Jr 5 rfl fun K hK=>?_
    have x0:=hBX.has 0 _ rfl
    have y0:=hBX.frozen 0
    obtain ⟨a7,c7,hv7⟩:=hRW.open
    obtain ⟨n7,hn7⟩:∃ n7,(zz++pk).length=n7:=⟨_,rfl⟩
    rw [hn7] at hv7
    subst hv7
    have hset:=hBX.set 0 (.slice a7 n7 c7)
    have hgs:=gb_set w7 B6 0 (.slice a7 n7 c7)
    have hr8:=hRW.grown hgs (fun k hk e=>hRW.ne hBX hk (by cases e;rfl))
    have hH8:=hHD.trans (Hard.of_gb hgs (by have:=hHD.below.size;omega) fun k hk=>by cases hk;exact ⟨by omega,fun c t f hc=>by rw [show w7.heap[B6]? = _ from hBX] at hc;cases hc;rfl⟩)
    have hK8:=hKF.trans (keepsFrom_gb hgs fun k hk=>by cases hk;exact ⟨_,_,_,hBX⟩)
    go_simp
    refine hK.out _ _ ⟨Blk.grown (B':=B6) hH.1 hgs (by rintro rfl;have q:=hH.1.symm.trans hBX;injection q with q;injection q with _ q;exact absurd q (by decide)),Blk.grown (B':=B6) hH.2 hgs (by rintro rfl;have q:=hH.2.symm.trans hBX;injection q with q;injection q with _ q;exact absurd q (by decide))⟩ (fun hH=>?_)
    clear hK K x0 y0
    refine Jz ?_
    show Code.wpIn _ _ _ _ _ _ _
    refine regionIn_of_list (r:=some l') (by kernel_rfl) (by rintro ⟨_,_,h⟩;exact h) ?_
    rw [HZN.out] at hr8
    have HR8:=Jh hr8
    have HS8:=Jh hset
    have hz8:=hH8.below.size
    clear hr8 hset
    go_wp2_with fail
    exact ⟨⟨k+1,⟨_,_,_,_,_,_,_,_,_,_,rfl⟩,by omega,_,HS8.out,by have:=HR8.out;rw [List.map_take] at this;exact this,hH8,by first | exact hK8 | (rw [<-hs2];exact hK8),by omega⟩,by simp [intOf];omega⟩
  ·obtain rfl:k=t'.e.length:=by omega
   have hrow:SpRow B6 (.slice au n cu) (rS ls (eachT.eachTs L) (pre++[t.cells (.slice ae t'.e.length ce) v2]).length) wr:=by
    rw [List.length_append,List.length_singleton,HSTEP.out]
    rw [List.take_length] at h3
    exact h3
   have HRW:=Jh hrow
   clear hrow h3
   go_wp2_with fail
   show Code.wpIn _ _ _ _ _ _ _
   refine wpIn_seq ?_
   refine wpIn_cond_false rfl ?_
   refine wpIn_exit ?_
   exact ⟨hKk,hHk,_,_,rfl,h2,HRW.out,HHK.out,by omega⟩
 case done =>
  rintro M Wx hM ⟨zs,u,h1,h2,h3,h4,h5⟩ hh hdef
  rw [hxl] at h1
  obtain ⟨au,cu,hu⟩:=h3.open
  subst hu
  have hX:Ext w Wx:=h4.below.mono (by omega)
  have hM0:Marks w2.heap.size [markOf M] Wx:=Marks.cons (ds:=[]) (Marks.nil _ _) (M:=M) (fun D hD=>by cases hD) (Nat.le_refl _) hM hdef
  have hzl:zs.length<=1048576:=by rw [h1];exact hlen
  have hn:=numbers_calls offs zs ov _ Wx (Sl.ints_ext HO.out hX) h3.cells (by rw [h1];exact HOK.out) HOB.out (by omega)
  have HN:=Jh hn
  clear hn
  have g0:=h2.has 0 _ rfl
  have H1:=Jh h1
  clear h1
  go_wp2_with (first | (go_at_call 34;refine HN.out.mono ?_;rintro r w7 ⟨v7,rfl,hr7,hx7⟩))
  have hz7:=hx7.size
  have hzx:=hX.size
  refine leaves_marks (B:=w2.heap.size) (fun _ W=>IntRow B6 v7 (numbersM offs zs) W/\Hard B6 w W/\w2.heap.size<=W.heap.size) (fun s A B row hs hg hr=>⟨own_rowI hs.1 hg hr,own_hard hs.2.1 (by omega) (by have:=hs.2.2;omega) hg hr,Nat.le_trans hs.2.2 hg.size⟩) ?_ _ w7 (hM0.ext hx7) ⟨hr7.less (by omega),h4.trans (Hard.of_ext hx7 (by omega)),by have:=hM0.lt (D:=M) (by simp);omega⟩
  rintro Wz ⟨q1,q2,q3⟩
  exact ⟨v7,by simp [results,Tryz.results30,go_sem],v7,rfl,by rw [hB6,<-H1.out];exact q1,q2.below.mono (by omega)⟩
end Go.Proofs.YtpngepnfinbaoaaGreat
