/- Laws and walks that a claim of this seat leans on: Clone, Run, WordsF, MarkB, IntsF, Live11. -/
import Derived.Test.YtbliplladmamoaaGreatS21
import Derived.Test.YtbliplladmamoaaGreatS03
import Derived.Test.YtbliplladmamoaaGreatS13
import Derived.Test.YtbliplladmamoaaGreatS20
import Derived.Test.YtbliplladmamoaaGreatS00
set_option maxRecDepth 100000
set_option maxHeartbeats 8000000
set_option linter.all false
namespace Go.Proofs.YtbliplladmamoaaGreat
open Go.RowKit
theorem Ur (l:List Nat) (s:Value) (w:World) (h:Us w s l) (hl:l.length<=1048576) :
  Calls Tryz.prog 20 #[s] w fun r w'=>∃ u,r=.returned u/\Ax w.heap.size u l w'/\Ext w w':=by
 have HX:=Jh (Ab w (.cells #[] 35))
 have HN:=Jh (h.ext HX.out)
 have j:=Jh (Ax.bs0 w (N:=w.heap.size) (Nat.le_refl _))
 obtain ⟨a,b,o,cap,rfl,ae,af,ha,hr⟩:=h.open
 have ac:=fun W=>Lib.run_eql_slice_nil (P:=Tryz.prog) W 27 35 a l.length cap 0 0 Tryz.underlying27
 cases a with
 | none =>
  have h0:l.length=0:=by
   by_cases hh:0<l.length
   ·have:=ha hh;cases this
   ·omega
  have H0:=Jh h0
  clear h0 ha hr h HX HN j
  go_enter Tryz.func20,Tryz.ntmps20
  go_wp2_with fail
  go_ret
  obtain rfl:l=[]:=List.eq_nil_of_length_eq_zero H0.out
  exact ⟨_,rfl,Ax.nil _ _,Below.refl _ _⟩
 | some ad =>
  clear hr ha h
  go_enter Tryz.func20,Tryz.ntmps20
  go_wp2_with (first | ((with_reducible show Jw (Op.buildSlice _ _ _));refine Hz rfl _ rfl Kn ?_) | ((with_reducible show Jw (Op.call { callee:=.builtin .append,args:=_,argTypes:=_ }));refine P5 rfl _ _ rfl rfl j.out rfl HN.out (by simp;omega) (by simp) ?_;intro v4 w4 aa ab))
  go_ret
  exact ⟨_,rfl,by simpa using aa,Below.grown HX.out ab HX.out.size (fun k hk=>by cases hk;exact Nat.le_refl _)⟩
theorem Ok {d:Bb} {vs:List Nat} {p:Int} (h:¬ (Cn d vs=true/\0<=p/\p<d.procs.length)):Iw d vs p=([],1):=by unfold Iw;rw [if_neg h]
theorem Y0 {d:Bb} {vs:List Nat} {p:Int} (h:Cn d vs=true/\0<=p/\p<d.procs.length):Iw d vs p=(allM ((d.procs[p.toNat]?.map (·.clocked)).getD false) vs (Lz d p) vs,0):=by unfold Iw;rw [if_pos h]
theorem Ou (d:Bb) (v:Value) (vs:List Nat) (s:Value) (p:Int) (w:World) (hF:Ck w v d) (ak:d.ok) (hs:Us w s vs) (br:Zc vs) (hp:Fp p) :
  Calls Tryz.prog 6 #[v,s,.int .i64 p] w fun r w'=>∃ u,r=.returned (.tuple #[u,.int .i64 (Iw d vs p).2])/\Ax w.heap.size u (Iw d vs p).1 w'/\Ext w w':=by
 have HF:=Jh (fun W (h:Ext w W)=>hF.ext h)
 have af:=Jh (fun W (h:Ext w W)=>Le d v W (hF.ext h) ak)
 have ag:=Jh (fun W (h:Ext w W)=>N6 d v vs s W (hF.ext h) ak (hs.ext h) br)
 have ba:=Jh (fun W (h:Ext w W)=>hs.ext h)
 have b5:=ak.procs
 obtain ⟨sv,pv,cv,rfl,hS,hP,hC⟩:=hF
 have bh:[sv,pv,cv].all (·.oneCell')=true:=by simp [hS.one,hP.one,hC.one]
 have b4:=Jh (fun W (h:Ext w W)=>hP.ext h)
 obtain ⟨a0,b0,o0,c0,rfl,-,-,-,-⟩:=hS.open
 obtain ⟨ap,bp,op,cp,rfl,b6,b7,bd,bf⟩:=hP.open
 obtain ⟨ac,bc,oc,cc,rfl,-,-,-,-⟩:=hC.open
 obtain ⟨av,bv,ov,aa,rfl,-,-,-,-⟩:=hs.open
 have hX:=Ab w (.cells [Value.slice a0 d.signals.length c0,.slice ap d.procs.length cp,.slice ac d.checks.length cc].toArray 26)
 have hD:=Blk.new w [Value.slice a0 d.signals.length c0,.slice ap d.procs.length cp,.slice ac d.checks.length cc].toArray 26
 have bg:=Jh bd
 have bk:=Jh bf
 have am:=Jh ak
 have b3:=Jh hp
 clear hS hP hC hs bd bf ak
 unfold Fp at hp
 go_enter Tryz.func6,Tryz.ntmps6
 go_upto_region 1 with fail
 generalize w.alloc _=w0 at *
 have HD:=Jh hD
 have HX:=Jh hX
 have d0:=hD.has
 have d1:=hD.has 1 _ rfl
 clear hD hX
 by_cases ai:By d=0
 case neg =>
  have c1:(By d != 0)=true:=by rw [bne_iff_ne];exact ai
  have HR:=Jh (Ok (d:=d) (vs:=vs) (p:=p) (fun h=>ai (by have:=h.1;unfold Cn at this;simp only [Bool.and_eq_true,decide_eq_true_eq] at this;exact this.2.1)))
  clear ai
  go_wp2_with (first | ((with_reducible show Jl 26);refine Aa rfl 26 _ rfl rfl (d0) Aj rfl ?_) | (go_at_call 18;refine (af.out w0 HX.out).mono ?_;rintro r w1 ⟨rfl,j⟩))
  refine bodyPost_ret (v:=.tuple #[.slice none 0 0,.int .i64 1]) (by simp [results,Tryz.results6,go_sem]) rfl ⟨_,by rw [HR.out],by rw [HR.out];exact Ax.nil _ _,HX.out.trans j⟩
 have a6:=Jh ai
 rw [ai] at af
 obtain ⟨q,hq⟩:∃ q,Cn d vs=q:=⟨_,rfl⟩
 have HQ:=Jh hq
 rw [hq] at ag
 clear hq ai
 cases q
 case false =>
  have HR:=Jh (Ok (d:=d) (vs:=vs) (p:=p) (fun h=>by rw [HQ.out] at h;cases h.1))
  go_wp2_with (first | ((with_reducible show Jl 26);refine Aa rfl 26 _ rfl rfl (d0) Aj rfl ?_) | (go_at_call 18;refine (af.out w0 HX.out).mono ?_;rintro r w1 ⟨rfl,j⟩;have d2:=(HD.out.ext j).has) | ((with_reducible show Jl 26);refine Aa rfl 26 _ rfl rfl (d2) Aj rfl ?_) | (go_at_call 19;refine (ag.out w1 (HX.out.trans j)).mono ?_;rintro r w2 ⟨rfl,ab⟩))
  refine bodyPost_ret (v:=.tuple #[.slice none 0 0,.int .i64 1]) (by simp [results,Tryz.results6,go_sem]) rfl ⟨_,by rw [HR.out],by rw [HR.out];exact Ax.nil _ _,HX.out.trans (j.trans ab)⟩
 by_cases aj:p<0
 ·have b1:decide (p<0)=true:=decide_eq_true aj
  have HR:=Jh (Ok (d:=d) (vs:=vs) (p:=p) (fun h=>by have:=h.2.1;omega))
  clear aj
  go_wp2_with (first | ((with_reducible show Jl 26);refine Aa rfl 26 _ rfl rfl (d0) Aj rfl ?_) | (go_at_call 18;refine (af.out w0 HX.out).mono ?_;rintro r w1 ⟨rfl,j⟩;have d2:=(HD.out.ext j).has) | ((with_reducible show Jl 26);refine Aa rfl 26 _ rfl rfl (d2) Aj rfl ?_) | (go_at_call 19;refine (ag.out w1 (HX.out.trans j)).mono ?_;rintro r w2 ⟨rfl,ab⟩))
  refine bodyPost_ret (v:=.tuple #[.slice none 0 0,.int .i64 1]) (by simp [results,Tryz.results6,go_sem]) rfl ⟨_,by rw [HR.out],by rw [HR.out];exact Ax.nil _ _,HX.out.trans (j.trans ab)⟩
 by_cases an:(d.procs.length:Int)<=p
 ·have b1:decide (p<0)=false:=decide_eq_false aj
  have b2:decide ((d.procs.length:Int)<=p)=true:=decide_eq_true an
  have HR:=Jh (Ok (d:=d) (vs:=vs) (p:=p) (fun h=>by have:=h.2.2;omega))
  clear aj an
  go_wp2_with (first | ((with_reducible show Jl 26);refine Aa rfl 26 _ rfl rfl (d0) Aj rfl ?_) | (go_at_call 18;refine (af.out w0 HX.out).mono ?_;rintro r w1 ⟨rfl,j⟩;have d2:=(HD.out.ext j).has) | ((with_reducible show Jl 26);refine Aa rfl 26 _ rfl rfl (d2) Aj rfl ?_) | (go_at_call 19;refine (ag.out w1 (HX.out.trans j)).mono ?_;rintro r w2 ⟨rfl,ab⟩;have d3:=(HD.out.ext (j.trans ab)).has 1 _ rfl))
  refine bodyPost_ret (v:=.tuple #[.slice none 0 0,.int .i64 1]) (by simp [results,Tryz.results6,go_sem]) rfl ⟨_,by rw [HR.out],by rw [HR.out];exact Ax.nil _ _,HX.out.trans (j.trans ab)⟩
 obtain ⟨k,rfl⟩:=Int.eq_ofNat_of_zero_le (show 0<=p by omega)
 have hk:k<d.procs.length:=by omega
 have b1:decide ((k:Int)<0)=false:=decide_eq_false aj
 have b2:decide ((d.procs.length:Int)<=(k:Int))=false:=decide_eq_false an
 have HR:=Jh (Y0 (d:=d) (vs:=vs) (p:=(k:Int)) ⟨HQ.out,by omega,by omega⟩)
 rw [Int.toNat_natCast,List.getElem?_eq_getElem hk,Kb (by rw [Int.toNat_natCast];exact hk)] at HR
 simp only [Option.map_some,Option.getD_some,Int.toNat_natCast] at HR
 obtain rfl:=bg.out (by omega)
 have bs:=bk.out.get (List.getElem?_eq_getElem hk)
 have a9:=Jh (L1 am.out a6.out _ (List.getElem_mem hk))
 have bw:=Rj d k hk
 have bu:=am.out.nodes
 have bt:(d.procs[k].l).length<=1048576:=by have:=A8 Aq d.procs[k].l (fun x _=>F9 x);omega
 have bj:=Jh (show Ap Aq d.procs[k].l<=1048576 by omega)
 clear aj an bw bu
 generalize d.procs[k]=pk at *
 obtain ⟨lv,be,a2⟩:=bs
 have a8:=Jh (fun W (h:Ext w W)=>be.ext h)
 have bm:=Jh (fun W (h:Ext w W)=>a2.ext h)
 obtain ⟨al,bl,ol,cl,rfl,-,-,-,-⟩:=a2.open
 have bx:vs.length<=1048576:=by
  have h1:=(Mb HQ.out).1
  have h2:=am.out.signals
  omega
 have bb:=Jh (Mb HQ.out)
 clear be a2
 generalize hgc:pk.clocked=ck at *
 go_upto_region 3 with (first | ((with_reducible show Jl 26);refine Aa rfl 26 _ rfl rfl (d0) Aj rfl ?_) | (go_at_call 18;refine (af.out w0 HX.out).mono ?_;rintro r w1 ⟨rfl,j⟩;have d2:=(HD.out.ext j).has) | ((with_reducible show Jl 26);refine Aa rfl 26 _ rfl rfl (d2) Aj rfl ?_) | (go_at_call 19;refine (ag.out w1 (HX.out.trans j)).mono ?_;rintro r w2 ⟨rfl,ab⟩;have d3:=(HD.out.ext (j.trans ab)).has 1 _ rfl))
 have X2:=Jh (HX.out.trans (j.trans ab))
 have ar:=Jh (HD.out.ext (j.trans ab))
 clear j ab d0 d1 d2 d3 HX HD af ag
 refine Jg w2 fun hH=>?_
 try simp only [J]
 (refine Jt 0 (.agg [Value.slice a0 d.signals.length c0,.slice (some ⟨bp,op,none⟩) d.procs.length cp,.slice ac d.checks.length cc].toArray) rfl (Ar rfl 26 _ rfl rfl (fun W hW=>(ar.out.ext hW).has) Aj rfl) hH ?_;try simp only [J])
 (refine Ji 1 (.slice av vs.length aa) rfl hH ?_;try simp only [J])
 (refine Ji 2 (.slice av vs.length aa) rfl hH ?_;try simp only [J])
 (refine Jk 4 (.pointer (some ⟨w.heap.size,1,none⟩)) rfl hH ?_;try simp only [J])
 (refine Jt 5 (.slice (some ⟨bp,op,none⟩) d.procs.length cp) rfl (yif_load1 rfl (by intro W hW;have z:=(ar.out.ext hW).has 1 _ rfl;clear hW;go_simp)) hH ?_;try simp only [J])
 (refine Ji 6 (.int .i64 (k:Int)) rfl hH ?_;try simp only [J])
 (refine Jp 7 (.pointer (some ⟨bp,op+k*2,none⟩)) rfl hH ?_;try simp only [J])
 (refine Jk 8 (.pointer (some ⟨bp,op+k*2,none⟩)) rfl hH ?_;try simp only [J])
 (refine Jt 9 (.bool ck) rfl (yif_load1 rfl (by intro W hW;have z:=(a8.out W (X2.out.trans hW)) 0 _ rfl;rw [hgc,Nat.add_zero] at z;clear hW;go_simp)) hH ?_;try simp only [J])
 (refine Jr 3 rfl fun K hK=>?_)
 go_simp
 have ae:Ext w w2.drew:=X2.out.trans hH
 refine (Ur vs _ _ (ba.out _ ae) bx).mono ?_
 rintro r w3 ⟨u,rfl,a3,ao⟩
 refine hK.out _ _ (hH.trans ao) (fun hH=>?_)
 clear hK K
 obtain ⟨au,cu,rfl,-⟩:=a3.open
 try simp only [J]
 (refine Jk 10 (.agg [Value.slice a0 d.signals.length c0,.slice (some ⟨bp,op,none⟩) d.procs.length cp,.slice ac d.checks.length cc,.slice av vs.length aa,.slice au vs.length cu,.bool ck].toArray) rfl hH ?_;try simp only [J])
 (refine Jr 11 rfl fun K hK=>?_)
 go_simp
 have x4:=Ab w3 (.cells (Oj (.slice a0 d.signals.length c0) (.slice (some ⟨bp,op,none⟩) d.procs.length cp) (.slice ac d.checks.length cc) (.slice av vs.length aa) (.slice au vs.length cu) ck).toArray 59)
 have ah:=Blk.new w3 (Oj (.slice a0 d.signals.length c0) (.slice (some ⟨bp,op,none⟩) d.procs.length cp) (.slice ac d.checks.length cc) (.slice av vs.length aa) (.slice au vs.length cu) ck).toArray 59
 refine hK.out _ _ (hH.trans x4) (fun hH=>?_)
 clear hK K
 try simp only [J]
 obtain ⟨P,hP⟩:∃ P,w3.heap.size=P:=⟨_,rfl⟩
 rw [hP] at ah ⊢
 have aw:Pl d (.slice a0 d.signals.length c0) (.slice (some ⟨bp,op,none⟩) d.procs.length cp) (.slice ac d.checks.length cc) (.slice av vs.length aa) vs w2.drew:=⟨am.out,a6.out,HF.out _ ae,ba.out _ ae,bb.out⟩
 have az:PlW d (.slice a0 d.signals.length c0) (.slice (some ⟨bp,op,none⟩) d.procs.length cp) (.slice ac d.checks.length cc) (.slice av vs.length aa) (.slice au vs.length cu) ck P w2.drew vs _:=⟨ao.trans x4,bb.out,a3.ext x4,ah⟩
 have aq:=Yv (nv:=.slice au vs.length cu) (ck:=ck) (P:=P) aw pk.l bt (fun t ht=>⟨(Agl aw t (a9.out t ht) (Nat.le_trans (Bf Aq pk.l t ht) bj.out)).1,a9.out t ht⟩) vs _ _ az (bm.out _ ae)
 have a5:=Jh aq
 have ax:=Jh az
 have bz:=ae.size
 have ay:=Jh (ae.trans (ao.trans x4))
 have a7:=Jh ae.size
 clear hP ah az aq aw x4 ao a3 ae bz
 generalize w3.alloc _=w4 at *
 (refine Ji 12 (.pointer (some ⟨P,0,none⟩)) rfl hH ?_;try simp only [J])
 refine Jz ?_
 have bi:=Jh (ar.out.ext hH)
 clear hH
 have z1:=bi.out.has 1 _ rfl
 have p1:=(a8.out _ ay.out) 1 _ rfl
 generalize w2.drew=wb at *
 go_upto_region 5 with (first | (go_at_call 21;refine (a5.out).mono ?_;rintro r w5 ⟨rfl,a4,a1⟩))
 have q4:=(ax.out.blk.grownR a1 (fun k hk=>ax.out.row.ne ax.out.blk (by decide) hk)).has 4 _ rfl
 have bq:=Jh (Below.grown ay.out a1 ay.out.size (fun k hk=>Nat.le_trans a7.out (a4.at hk).1))
 have bo:=Jh (a4.less a7.out)
 clear a1 a4 p1 z1
 go_wp2_with ((with_reducible show bodyPost _ _ _ _ _ _);refine Hid.out ?_)
 refine Jh ?_
 refine bodyPost_ret (v:=.tuple #[.slice au vs.length cu,.int .i64 0]) (by simp [results,Tryz.results6,go_sem]) rfl ⟨_,by rw [HR.out],by rw [HR.out];exact bo.out,bq.out⟩
/-! ### filigreeref11.Words -/
theorem Mw (l r:List Nat) (v v':Value) (w:World) (h:Us w v l) (h':Us w v' r) (hn:l.length<=1099511627776) :
  Calls Tryz.prog 8 #[v,v'] w fun e w'=>e=.returned (.bool (decide (l=r)))/\Ext w w':=by
 obtain ⟨a,b,o,cap,rfl,aq,av,ha,hr⟩:=h.open
 obtain ⟨a',b',o',ar,rfl,al,aw,ak,an⟩:=h'.open
 have HR:=Jh hr
 have HA:=Jh ha
 have ao:=Jh an
 have ae:=Jh ak
 clear hr ha h an ak h'
 obtain ⟨t,ht⟩:∃ t,decide (l=r)=t:=⟨_,rfl⟩
 rw [ht]
 have HT:=Jh ht
 clear ht
 by_cases u:l.length=r.length
 ·have am:((l.length:Int) != (r.length:Int))=false:=by rw [bne_eq_false_iff_eq,u]
  have au:=Jh u
  obtain ⟨n,ac⟩:∃ n,l.length=n:=⟨_,rfl⟩
  have af:=Jh ac
  have ag:=Jh (show r.length=n by rw [<-u];exact ac)
  rw [<-u] at al ae ⊢
  rw [ac] at aq al HA ae hn ⊢
  clear u am ac
  go_enter Tryz.func8,Tryz.ntmps8
  go_wp2_with fail
  go_loopw [5] (fun i wr=>∃ k:Nat,k<=n/\i=.int .i64 k/\(∀ j,j<k->l[j]? = r[j]?)/\Ext w wr) (fun i _=>n-(intOf i).toNat)
  case atStart=>exact ⟨0,Nat.zero_le _,rfl,fun j hj=>absurd hj (by omega),Below.refl _ _⟩
  case round =>
   obtain ⟨k,hk,rfl,ab,hx⟩:=hrel
   have HS:=Jh ab
   have HX:=Jh hx
   clear ab hx
   by_cases aa:k<n
   ·obtain rfl:=HA.out (by omega)
    obtain rfl:=ae.out (by omega)
    have HZ:=Jh (fun W (hx:Ext w W)=>Us.get (k:=k) (HR.out.mono fun x _ b o h=>Has.ext h hx) (by rw [af.out];exact aa))
    have ap:=Jh (fun W (hx:Ext w W)=>Us.get (k:=k) (ao.out.mono fun x _ b o h=>Has.ext h hx) (by rw [ag.out];exact aa))
    have HE:=Jh (show l[k]? = some (l[k]'(by rw [af.out];exact aa)) from List.getElem?_eq_getElem _)
    have aj:=Jh (show r[k]? = some (r[k]'(by rw [ag.out];exact aa)) from List.getElem?_eq_getElem _)
    generalize l[k]'_=x at *
    generalize r[k]'_=y at *
    go_upto_region 6 with fail
    refine wp_region_held_drew (S:=fun W=>Ext w W) (by kernel_rfl) (Below.drew HX.out) (fun hH=>?_)
    try simp only [J]
    (refine Ji 0 _ rfl hH ?_;try simp only [J])
    (refine Ji 1 _ rfl hH ?_;try simp only [J])
    (refine Jp 2 (.pointer (some ⟨b,o+k,Option.none⟩)) rfl hH ?_;try simp only [J])
    (refine Jt 3 (W64 x) rfl (yif_load1 rfl (by intro W hW;have y:=HZ.out W hW;clear hW;go_simp)) hH ?_;try simp only [J])
    (refine Ji 4 _ rfl hH ?_;try simp only [J])
    (refine Ji 5 _ rfl hH ?_;try simp only [J])
    (refine Jp 6 (.pointer (some ⟨b',o'+k,Option.none⟩)) rfl hH ?_;try simp only [J])
    (refine Jt 7 (W64 y) rfl (yif_load1 rfl (by intro W hW;have y:=ap.out W hW;clear hW;go_simp)) hH ?_;try simp only [J])
    obtain ⟨c,hc⟩:∃ c,((x:Int) != (y:Int))=c:=⟨_,rfl⟩
    have HC:=Jh hc
    clear hc
    (refine Jt 8 (.bool c) rfl (yif_load1 rfl (by intro W hW;clear hW;go_simp;exact HC.out)) hH ?_;try simp only [J])
    refine Jz ?_
    cases c
    ·have ai:=Jh (show x=y by have:=HC.out;rw [bne_eq_false_iff_eq] at this;exact_mod_cast this)
     go_wp2_with fail
     go_roundw
     case rel=>exact ⟨k+1,aa,by go_num,fun j hj=>by
      by_cases e:j=k
      ·subst e;rw [HE.out,aj.out,ai.out]
      ·exact HS.out j (by omega),hH⟩
     case measure=>simp [intOf];omega
    ·have ai:=Jh (show x≠y by have:=HC.out;rw [bne_iff_ne] at this;exact fun e=>this (by rw [e]))
     obtain rfl:t=false:=by
      rw [<-HT.out,decide_eq_false_iff_not]
      intro e
      have h1:=HE.out
      rw [e,aj.out] at h1
      injection h1 with h1
      exact ai.out h1.symm
     go_wp2_with fail
     go_ret
     exact ⟨rfl,hH⟩
   ·obtain rfl:k=n:=by omega
    obtain rfl:t=true:=by
     rw [<-HT.out,decide_eq_true_eq]
     refine List.ext_getElem? fun j=>?_
     by_cases hj:j<k
     ·exact HS.out j hj
     ·rw [List.getElem?_eq_none (by rw [af.out];omega),List.getElem?_eq_none (by rw [ag.out];omega)]
    go_wp2_with fail
    go_ret
    exact ⟨rfl,HX.out⟩
 ·obtain rfl:t=false:=by
   rw [<-HT.out,decide_eq_false_iff_not]
   intro e;exact u (by rw [e])
  have am:((l.length:Int) != (r.length:Int))=true:=by rw [bne_iff_ne];omega
  clear u
  go_enter Tryz.func8,Tryz.ntmps8
  go_wp2_with fail
  go_ret
  exact ⟨rfl,Below.refl _ _⟩
/-! ### rows of marks -/
abbrev V9 (w:World) (v:Value) (l:List Bool):Prop:=Sl 1 (fun (x:Bool) b o=>Has w b o [.bool x]) v l
def Bn (N:Nat) (v:Value) (l:List Bool) (w:World):Prop:=w.ownsRow N 4 1 v l.length (l.map (Value.bool))
theorem Bn.nil (N:Nat) (w:World):Bn N (.slice none 0 0) [] w:=World.ownsRow_nil _ _ _ _
theorem Bn.open {N:Nat} {v:Value} {l:List Bool} {w:World} (h:Bn N v l w):∃ a cap,v=.slice a l.length cap/\(v.ownBlock=none->l=[]):=by
 rcases h.2 with ⟨rfl,h0⟩ | ⟨g,cap,j,rfl,-⟩
 ·exact ⟨none,0,by rw [h0],fun _=>List.eq_nil_of_length_eq_zero h0⟩
 ·exact ⟨_,cap,rfl,fun h=>by cases h⟩
theorem Bn.at {N:Nat} {v:Value} {l:List Bool} {w:World} (h:Bn N v l w) {k:Nat} (hk:v.ownBlock=some k):N<=k/\∃ j,w.heap[k]? = some (.cells j 4 (0,0)):=by
 rcases h.2 with ⟨rfl,h0⟩ | ⟨g,cap,j,rfl,hb,hg,-⟩
 ·cases hk
 ·cases hk;exact ⟨hb,j,hg⟩
theorem Bn.keep {N:Nat} {v:Value} {l:List Bool} {w w':World} (h:Bn N v l w) (hk:∀ k,v.ownBlock=some k->∀ o,w.heap[k]? = some o->w'.heap[k]? = some o):Bn N v l w':=by
 refine ⟨h.1,?_⟩
 rcases h.2 with hn | ⟨g,cap,j,rfl,hb,hg,rest⟩
 ·exact .inl hn
 ·exact .inr ⟨g,cap,j,rfl,hb,hk g rfl _ hg,rest⟩
theorem Bn.ext {N:Nat} {v:Value} {l:List Bool} {w w':World} (h:Bn N v l w) (hx:Ext w w'):Bn N v l w' :=
 h.keep fun k _ _ ho=>(hx.block k (Array.getElem?_eq_some_iff.1 ho).1).trans ho
theorem Bn.grown {N:Nat} {v:Value} {l:List Bool} {w w':World} {R:Option Nat} (h:Bn N v l w) (hg:w.grownBy w' R) (hR:∀ k,v.ownBlock=some k->some k≠R):Bn N v l w' :=
 h.keep fun k hk _ ho=>(hg.block k (Array.getElem?_eq_some_iff.1 ho).1 (hR k hk)).trans ho
theorem Bn.less {N M:Nat} {v:Value} {l:List Bool} {w:World} (h:Bn N v l w) (hM:M<=N):Bn M v l w:=by
 refine ⟨h.1,?_⟩
 rcases h.2 with hn | ⟨g,cap,j,rfl,hb,rest⟩
 ·exact .inl hn
 ·exact .inr ⟨g,cap,j,rfl,Nat.le_trans hM hb,rest⟩
theorem Ahd (l:List Bool):(l.map fun x=>[Value.bool x]).flatten=l.map (Value.bool):=by
 induction l with
 | nil=>rfl
 | cons x l ih=>simp only [List.map_cons,List.flatten_cons,ih];rfl
theorem Bn.cells {N:Nat} {v:Value} {l:List Bool} {w:World} (h:Bn N v l w):V9 w v l:=by
 rcases h.2 with ⟨rfl,h0⟩ | ⟨g,cap,ab,rfl,hb,hg,aa,u,ac,j⟩
 ·obtain rfl:l=[]:=List.eq_nil_of_length_eq_zero h0
  exact Sl.nil _ _
 ·refine ⟨g,0,⟨_,cap,rfl,aa,u,fun _=>rfl⟩,Di (f:=fun x=>[Value.bool x]) (fun _=>rfl) l 0 ?_⟩
  have:=Hw (N:=N) (cap:=cap) (size:=1) hg j
  rw [Ahd];exact this
theorem Bn.ne {N B:Nat} {v:Value} {cs:Array Value} {T:TypeId} {l:List Bool} {w:World} (h:Bn N v l w) (hb:Blk w B cs T) (hT:(T==4)=false) {k:Nat} (hk:v.ownBlock=some k):k≠B:=by
 rintro rfl
 obtain ⟨-,u,j⟩:=h.at hk
 have h2:w.heap[k]? = some (.cells cs T (0,0)):=hb
 rw [j] at h2
 injection h2 with h2
 injection h2 with _ h2
 subst h2
 exact absurd hT (by decide)
theorem Bn.open1 {N:Nat} {v:Value} {l:List Bool} {w:World} (h:Bn N v l w) (hl:0<l.length):∃ g cap,v=.slice (some ⟨g,0,none⟩) l.length cap/\N<=g/\∀ i x,l[i]? = some x->w.cell? ⟨g,i,none⟩=some (.bool x):=by
 rcases h.2 with ⟨rfl,h0⟩ | ⟨g,cap,u,rfl,hb,hg,ac,aa,ab,j⟩
 ·omega
 ·refine ⟨g,cap,rfl,hb,fun i x hx=>?_⟩
  have:=Hw (N:=N) (cap:=cap) (size:=1) hg j i (.bool x) (by simp [hx])
  rwa [Nat.zero_add] at this
theorem Bn.ofBlk {N g:Nat} {l:List Bool} {w:World} (h:Blk w g (l.map (Value.bool)).toArray 4) (hN:N<=g) (hm:l.length<=9223372036854775807):Bn N (.slice (some ⟨g,0,none⟩) l.length l.length) l w :=
 ⟨by simp,.inr ⟨g,l.length,_,rfl,hN,h,Nat.le_refl _,by simpa [maxLen] using hm,by simp,by rw [Nat.mul_one];exact List.take_of_length_le (by simp)⟩⟩
theorem V9.ext {w w':World} {v:Value} {l:List Bool} (h:V9 w v l) (hx:Ext w w'):V9 w' v l:=Sl.mono h fun _ _ _ _ q=>Has.ext q hx
theorem Bn.set {N g cap:Nat} {n:Nat} {l:List Bool} {w:World} (h:Bn N (.slice (some ⟨g,0,none⟩) n cap) l w) (j:Nat) (hj:j<l.length) (x:Bool) :
  Bn N (.slice (some ⟨g,0,none⟩) n cap) (l.set j x) (w.setCell ⟨g,j,none⟩ (.bool x)):=by
 rcases h.2 with ⟨e,h0⟩ | ⟨g',af,aa,e,hb,hg,ae,ab,ac,u⟩
 ·cases e
 ·injection e with e1 e2 e3
  injection e1 with e1
  injection e1 with e1
  subst e1 e2 e3
  have hB:Blk w g aa 4:=hg
  refine ⟨by simp,.inr ⟨g,cap,aa.setIfInBounds j (.bool x),by rw [List.length_set],hb,hB.set j (.bool x),by rw [List.length_set];exact ae,ab,by rw [Array.size_setIfInBounds];exact ac,?_⟩⟩
  rw [List.length_set,Array.toList_setIfInBounds,List.map_set,<-u,List.take_set]
theorem Bn.bs0 (w:World) {N:Nat} (hN:N<=w.heap.size):Bn N (.slice (some ⟨w.heap.size,0,none⟩) 0 0) [] (w.alloc (.cells #[] 4)) :=
 ⟨rfl,.inr ⟨w.heap.size,0,#[],rfl,hN,Blk.new w #[] 4,Nat.le_refl _,by decide,rfl,rfl⟩⟩
theorem Bn.made {w:World} {N n:Nat} {x:Bool} (hN:N<=w.heap.size) (hn:n<=9223372036854775807):Bn N (.slice (some ⟨w.heap.size,0,none⟩) n n) (List.replicate n x) (w.alloc (.cells (List.replicate n (Value.bool x)).toArray 4)):=by
 have:=Bn.ofBlk (N:=N) (l:=List.replicate n x) (g:=w.heap.size) (w:=w.alloc (.cells (List.replicate n (Value.bool x)).toArray 4)) (by rw [List.map_replicate];exact Blk.new _ _ _) hN (by simpa using hn)
 simpa using this
theorem Au.set {N g cap:Nat} {n:Nat} {l:List Int} {w:World} (h:Au N (.slice (some ⟨g,0,none⟩) n cap) l w) (j:Nat) (hj:j<l.length) (x:Int) :
  Au N (.slice (some ⟨g,0,none⟩) n cap) (l.set j x) (w.setCell ⟨g,j,none⟩ (.int .i64 x)):=by
 rcases h.2 with ⟨e,h0⟩ | ⟨g',af,aa,e,hb,hg,ae,ab,ac,u⟩
 ·cases e
 ·injection e with e1 e2 e3
  injection e1 with e1
  injection e1 with e1
  subst e1 e2 e3
  have hB:Blk w g aa 3:=hg
  refine ⟨by simp,.inr ⟨g,cap,aa.setIfInBounds j (.int .i64 x),by rw [List.length_set],hb,hB.set j (.int .i64 x),by rw [List.length_set];exact ae,ab,by rw [Array.size_setIfInBounds];exact ac,?_⟩⟩
  rw [List.length_set,Array.toList_setIfInBounds,List.map_set,<-u,List.take_set]
theorem V9.cell {w:World} {a:Option Addr} {b o n cap:Nat} {l:List Bool} (h:Rows 1 (fun (x:Bool) b o=>Has w b o [.bool x]) l b o) {k:Nat} (hk:k<l.length):w.cell? ⟨b,o+k,none⟩=some (.bool l[k]):=by
 have:=h.get (List.getElem?_eq_getElem hk) 0 _ rfl
 simpa using this
theorem Ints.cell {w:World} {b o:Nat} {l:List Int} (h:Rows 1 (fun (x:Int) b o=>Has w b o [.int .i64 x]) l b o) {k:Nat} (hk:k<l.length):w.cell? ⟨b,o+k,none⟩=some (.int .i64 l[k]):=by
 have:=h.get (List.getElem?_eq_getElem hk) 0 _ rfl
 simpa using this
/-! ### filigreeref11.Ints -/
theorem Hi (l r:List Int) (v v':Value) (w:World) (h:Ints w v l) (h':Ints w v' r) (hn:l.length<=1099511627776) :
  Calls Tryz.prog 16 #[v,v'] w fun e w'=>e=.returned (.bool (decide (l=r)))/\Ext w w':=by
 obtain ⟨a,b,o,cap,rfl,aq,av,ha,hr⟩:=h.open
 obtain ⟨a',b',o',ar,rfl,al,aw,ak,an⟩:=h'.open
 have HR:=Jh hr
 have HA:=Jh ha
 have ao:=Jh an
 have ae:=Jh ak
 clear hr ha h an ak h'
 obtain ⟨t,ht⟩:∃ t,decide (l=r)=t:=⟨_,rfl⟩
 rw [ht]
 have HT:=Jh ht
 clear ht
 by_cases u:l.length=r.length
 ·have am:((l.length:Int) != (r.length:Int))=false:=by rw [bne_eq_false_iff_eq,u]
  have au:=Jh u
  obtain ⟨n,ac⟩:∃ n,l.length=n:=⟨_,rfl⟩
  have af:=Jh ac
  have ag:=Jh (show r.length=n by rw [<-u];exact ac)
  rw [<-u] at al ae ⊢
  rw [ac] at aq al HA ae hn ⊢
  clear u am ac
  go_enter Tryz.func16,Tryz.ntmps16
  go_wp2_with fail
  go_loopw [5] (fun i wr=>∃ k:Nat,k<=n/\i=.int .i64 k/\(∀ j,j<k->l[j]? = r[j]?)/\Ext w wr) (fun i _=>n-(intOf i).toNat)
  case atStart=>exact ⟨0,Nat.zero_le _,rfl,fun j hj=>absurd hj (by omega),Below.refl _ _⟩
  case round =>
   obtain ⟨k,hk,rfl,ab,hx⟩:=hrel
   have HS:=Jh ab
   have HX:=Jh hx
   clear ab hx
   by_cases aa:k<n
   ·obtain rfl:=HA.out (by omega)
    obtain rfl:=ae.out (by omega)
    have HZ:=Jh (fun W (hx:Ext w W)=>Ints.cell (k:=k) (HR.out.mono fun x _ b o h=>Has.ext h hx) (by rw [af.out];exact aa))
    have ap:=Jh (fun W (hx:Ext w W)=>Ints.cell (k:=k) (ao.out.mono fun x _ b o h=>Has.ext h hx) (by rw [ag.out];exact aa))
    have HE:=Jh (show l[k]? = some (l[k]'(by rw [af.out];exact aa)) from List.getElem?_eq_getElem _)
    have aj:=Jh (show r[k]? = some (r[k]'(by rw [ag.out];exact aa)) from List.getElem?_eq_getElem _)
    generalize l[k]'_=x at *
    generalize r[k]'_=y at *
    go_upto_region 6 with fail
    refine wp_region_held_drew (S:=fun W=>Ext w W) (by kernel_rfl) (Below.drew HX.out) (fun hH=>?_)
    try simp only [J]
    (refine Ji 0 _ rfl hH ?_;try simp only [J])
    (refine Ji 1 _ rfl hH ?_;try simp only [J])
    (refine Jp 2 (.pointer (some ⟨b,o+k,Option.none⟩)) rfl hH ?_;try simp only [J])
    (refine Jt 3 (.int .i64 x) rfl (yif_load1 rfl (by intro W hW;have y:=HZ.out W hW;clear hW;go_simp)) hH ?_;try simp only [J])
    (refine Ji 4 _ rfl hH ?_;try simp only [J])
    (refine Ji 5 _ rfl hH ?_;try simp only [J])
    (refine Jp 6 (.pointer (some ⟨b',o'+k,Option.none⟩)) rfl hH ?_;try simp only [J])
    (refine Jt 7 (.int .i64 y) rfl (yif_load1 rfl (by intro W hW;have y:=ap.out W hW;clear hW;go_simp)) hH ?_;try simp only [J])
    obtain ⟨c,hc⟩:∃ c,(x != y)=c:=⟨_,rfl⟩
    have HC:=Jh hc
    clear hc
    (refine Jt 8 (.bool c) rfl (yif_load1 rfl (by intro W hW;clear hW;go_simp;exact HC.out)) hH ?_;try simp only [J])
    refine Jz ?_
    cases c
    ·have ai:=Jh (show x=y by have:=HC.out;rwa [bne_eq_false_iff_eq] at this)
     go_wp2_with fail
     go_roundw
     case rel=>exact ⟨k+1,aa,by go_num,fun j hj=>by
      by_cases e:j=k
      ·subst e;rw [HE.out,aj.out,ai.out]
      ·exact HS.out j (by omega),hH⟩
     case measure=>simp [intOf];omega
    ·have ai:=Jh (show x≠y by have:=HC.out;rwa [bne_iff_ne] at this)
     obtain rfl:t=false:=by
      rw [<-HT.out,decide_eq_false_iff_not]
      intro e
      have h1:=HE.out
      rw [e,aj.out] at h1
      injection h1 with h1
      exact ai.out h1.symm
     go_wp2_with fail
     go_ret
     exact ⟨rfl,hH⟩
   ·obtain rfl:k=n:=by omega
    obtain rfl:t=true:=by
     rw [<-HT.out,decide_eq_true_eq]
     refine List.ext_getElem? fun j=>?_
     by_cases hj:j<k
     ·exact HS.out j hj
     ·rw [List.getElem?_eq_none (by rw [af.out];omega),List.getElem?_eq_none (by rw [ag.out];omega)]
    go_wp2_with fail
    go_ret
    exact ⟨rfl,HX.out⟩
 ·obtain rfl:t=false:=by
   rw [<-HT.out,decide_eq_false_iff_not]
   intro e;exact u (by rw [e])
  have am:((l.length:Int) != (r.length:Int))=true:=by rw [bne_iff_ne];omega
  clear u
  go_enter Tryz.func16,Tryz.ntmps16
  go_wp2_with fail
  go_ret
  exact ⟨rfl,Below.refl _ _⟩
theorem Ahl {W:World} {B:Nat} (h:Blk W B (d11.signals.map Ai.cells).flatten.toArray 37):Cq W (.slice (some ⟨B,0,none⟩) 4 4) d11.signals :=
 ⟨B,0,⟨_,4,rfl,Nat.le_refl _,by decide,fun _=>rfl⟩,Di (f:=Ai.cells) (fun _=>rfl) d11.signals 0 h.has⟩
theorem Vg (w:World):Calls Tryz.prog 4 #[] w fun r w'=>r=.returned (.bool true)/\Ext w w':=by
 go_enter Tryz.func4,Tryz.ntmps4
 go_wp2_with ((with_reducible show Jw (Op.buildSlice _ _ _));refine Hid.out ?_)
 refine Jh ?_
 have cd:=Ab w (.cells (d11.signals.map Ai.cells).flatten.toArray 37)
 have ba:=Blk.new w (d11.signals.map Ai.cells).flatten.toArray 37
 refine Dq rfl _ 4 _ rfl Oy (vs:=d11.signals.map fun x=>Value.agg x.cells.toArray) rfl rfl (css:=d11.signals.map Ai.cells) rfl (by intro cs h;simp [d11] at h;rcases h with rfl | rfl | rfl | rfl<;>rfl) (by decide) (by decide) ?_
 have cj:(w.alloc (.cells (d11.signals.map Ai.cells).flatten.toArray 37)).heap.size=w.heap.size+1:=by simp
 generalize w.alloc _=w1 at *
 obtain ⟨N,hN⟩:∃ N,w.heap.size=N:=⟨_,rfl⟩
 rw [hN] at ba ⊢
 obtain ⟨B1,bl⟩:∃ B1,w1.heap.size=B1:=⟨_,rfl⟩
 have co:N<B1:=by omega
 have HN:=Jh hN
 clear hN cj
 have bd:=Ab w1 (.cells [Value.slice (some ⟨N,0,none⟩) 4 4,.slice none 0 0,.slice none 0 0].toArray 26)
 have bb:=Blk.new w1 [Value.slice (some ⟨N,0,none⟩) 4 4,.slice none 0 0,.slice none 0 0].toArray 26
 have cc:(w1.alloc (.cells [Value.slice (some ⟨N,0,none⟩) 4 4,.slice none 0 0,.slice none 0 0].toArray 26)).heap.size=w1.heap.size+1:=by simp
 go_upto_region 2 with (first | ((with_reducible show Js 26);refine Ad rfl 26 _ _ rfl rfl (by first | rfl | simp) rfl Aj (rfl) rfl (by simp [Value.oneCell']) ?_))
 generalize w1.alloc _=w2 at *
 rw [bl] at bb cc
 have aa:=Jh bb
 have ab:=Jh (ba.ext bd)
 have u:=Jh (cd.trans bd)
 obtain ⟨M,hM⟩:∃ M,w2.heap.size=M:=⟨_,rfl⟩
 have cn:B1<M:=by omega
 have ce:=Jh (show w.heap.size<=N from by rw [HN.out];exact Nat.le_refl _)
 have ci:M<=w2.heap.size:=by omega
 clear ba bb cd bd bl cc hM
 go_wp2_with (first | (go_at_call 9;refine (L5 0 _).mono ?_;rintro r w3 ⟨rfl,a3⟩) | ((with_reducible show Jw (Op.buildSlice _ _ _));refine Hid.out ?_))
 replace aa:=Jh (aa.out.ext a3)
 replace ab:=Jh (ab.out.ext a3)
 replace u:=Jh (u.out.trans a3)
 have b1:M<=w3.heap.size:=by have:=a3.size;omega
 clear a3 ci
 refine Jh ?_
 have ai:=Ab w3 (.cells ((Hp 1 0 0 0).cells (.slice none 0 0)).toArray 40)
 have ak:=Blk.new w3 ((Hp 1 0 0 0).cells (.slice none 0 0)).toArray 40
 refine B9 rfl _ _ rfl Qt rfl (cs:=((Hp 1 0 0 0).cells (.slice none 0 0))) rfl rfl (by decide) ?_
 replace aa:=Jh (aa.out.ext ai)
 replace ab:=Jh (ab.out.ext ai)
 replace u:=Jh (u.out.trans ai)
 have b2:M<=(w3.alloc (.cells ((Hp 1 0 0 0).cells (.slice none 0 0)).toArray 40)).heap.size:=by have:=ai.size;omega
 generalize w3.alloc _=w4 at *
 obtain ⟨BE,bo⟩:∃ B,w3.heap.size=B:=⟨_,rfl⟩
 have bw:M<=BE:=by omega
 rw [bo] at ak ⊢
 clear bo b1 ai
 have ao:Hid (∀ W,Al M w4 W->Es W (.slice (some ⟨BE,0,none⟩) 1 1) [Hp 1 0 0 0]):=Jh fun W hW =>
  ⟨BE,0,⟨_,1,rfl,Nat.le_refl _,by decide,fun _=>rfl⟩,VE.at (hW.blk ak bw).has (Vx 0 W),trivial⟩
 clear ak
 go_wp2_with (first | (go_at_call 9;refine (L5 1 _).mono ?_;rintro r w5 ⟨rfl,aw⟩) | (go_at_call 11;refine (Pv M 3 _ (Hp 1 1 0 0) _ (fun W _=>Vx 1 W) (by have:=aw.size;omega)).mono ?_;rintro r w6 ⟨cp,rfl,cf,cr,bu,a0⟩) | ((with_reducible show Jw (Op.buildSlice _ _ _));refine Hid.out ?_))
 replace aa:=Jh (aa.out.ext aw)
 replace ab:=Jh (ab.out.ext aw)
 replace u:=Jh (u.out.trans aw)
 replace ao:=Jh (fun W hW=>ao.out W ((Al.of_ext aw).trans hW))
 replace aa:=Jh (aa.out.ext a0)
 replace ab:=Jh (ab.out.ext a0)
 replace u:=Jh (u.out.trans a0)
 replace ao:=Jh (fun W hW=>ao.out W ((Al.of_ext a0).trans hW))
 have b3:M<=w6.heap.size:=by have:=aw.size;have:=a0.size;omega
 have a5:=Jh bu
 clear aw a0 b2 bu
 refine Jh ?_
 have ai:=Ab w6 (.cells cp.toArray 44)
 have ak:=Blk.new w6 cp.toArray 44
 refine B9 rfl _ _ rfl Nh rfl (cs:=cp) rfl cf (by decide) ?_
 replace aa:=Jh (aa.out.ext ai)
 replace ab:=Jh (ab.out.ext ai)
 replace u:=Jh (u.out.trans ai)
 replace ao:=Jh (fun W hW=>ao.out W ((Al.of_ext ai).trans hW))
 replace a5:=Jh (fun W hW=>a5.out W ((Al.of_ext ai).trans hW))
 have b4:M<=(w6.alloc (.cells cp.toArray 44)).heap.size:=by have:=ai.size;omega
 generalize w6.alloc _=w7 at *
 obtain ⟨BT,bs⟩:∃ B,w6.heap.size=B:=⟨_,rfl⟩
 have b0:M<=BT:=by omega
 rw [bs] at ak ⊢
 clear bs b3 ai
 have av:Hid (∀ W,Al M w7 W->Ts W (.slice (some ⟨BT,0,none⟩) 1 1) [Ih 3 (Hp 1 1 0 0)]):=Jh fun W hW =>
  ⟨BT,0,⟨_,1,rfl,Nat.le_refl _,by decide,fun _=>rfl⟩,VT.at (hW.blk ak b0).has (a5.out W hW),trivial⟩
 clear ak a5
 go_wp2_with (first | (go_at_call 10;refine (My (some ⟨BT,0,none⟩) 1 1 _).mono ?_;rintro r w8 ⟨rfl,ax⟩) | (go_at_call 10;refine (My none 0 0 _).mono ?_;rintro r w9 ⟨rfl,ay⟩) | ((with_reducible show Jw (Op.buildSlice _ _ _));refine Hid.out ?_))
 replace aa:=Jh (aa.out.ext ax)
 replace ab:=Jh (ab.out.ext ax)
 replace u:=Jh (u.out.trans ax)
 replace ao:=Jh (fun W hW=>ao.out W ((Al.of_ext ax).trans hW))
 replace av:=Jh (fun W hW=>av.out W ((Al.of_ext ax).trans hW))
 replace aa:=Jh (aa.out.ext ay)
 replace ab:=Jh (ab.out.ext ay)
 replace u:=Jh (u.out.trans ay)
 replace ao:=Jh (fun W hW=>ao.out W ((Al.of_ext ay).trans hW))
 replace av:=Jh (fun W hW=>av.out W ((Al.of_ext ay).trans hW))
 have b5:M<=w9.heap.size:=by have:=ax.size;have:=ay.size;omega
 clear ax ay b4
 refine Jh ?_
 have ai:=Ab w9 (.cells [[.int .i64 5,.int .i64 0,.int .i64 0,.int .i64 0,.slice none 0 0,.slice (some ⟨BT,0,none⟩) 1 1],[.int .i64 5,.int .i64 0,.int .i64 0,.int .i64 0,.slice none 0 0,.slice none 0 0]].flatten.toArray 44)
 have ak:=Blk.new w9 [[.int .i64 5,.int .i64 0,.int .i64 0,.int .i64 0,.slice none 0 0,.slice (some ⟨BT,0,none⟩) 1 1],[.int .i64 5,.int .i64 0,.int .i64 0,.int .i64 0,.slice none 0 0,.slice none 0 0]].flatten.toArray 44
 refine Dq rfl _ 2 _ rfl Nh (vs:=[.agg ([.int .i64 5,.int .i64 0,.int .i64 0,.int .i64 0,.slice none 0 0,.slice (some ⟨BT,0,none⟩) 1 1]:List Value).toArray,.agg ([.int .i64 5,.int .i64 0,.int .i64 0,.int .i64 0,.slice none 0 0,.slice none 0 0]:List Value).toArray]) rfl rfl (css:=[[.int .i64 5,.int .i64 0,.int .i64 0,.int .i64 0,.slice none 0 0,.slice (some ⟨BT,0,none⟩) 1 1],[.int .i64 5,.int .i64 0,.int .i64 0,.int .i64 0,.slice none 0 0,.slice none 0 0]]) rfl (by intro cs h;simp at h;rcases h with rfl | rfl<;>rfl) (by decide) (by decide) ?_
 replace aa:=Jh (aa.out.ext ai)
 replace ab:=Jh (ab.out.ext ai)
 replace u:=Jh (u.out.trans ai)
 replace ao:=Jh (fun W hW=>ao.out W ((Al.of_ext ai).trans hW))
 replace av:=Jh (fun W hW=>av.out W ((Al.of_ext ai).trans hW))
 have b6:M<=(w9.alloc (.cells [[.int .i64 5,.int .i64 0,.int .i64 0,.int .i64 0,.slice none 0 0,.slice (some ⟨BT,0,none⟩) 1 1],[.int .i64 5,.int .i64 0,.int .i64 0,.int .i64 0,.slice none 0 0,.slice none 0 0]].flatten.toArray 44)).heap.size:=by have:=ai.size;omega
 generalize w9.alloc _=wa at *
 obtain ⟨BL,bp⟩:∃ B,w9.heap.size=B:=⟨_,rfl⟩
 have bx:M<=BL:=by omega
 rw [bp] at ak ⊢
 clear bp b5 ai
 have a4:Hid (∀ W,Al M wa W->Ts W (.slice (some ⟨BL,0,none⟩) 2 2) [Mh [Ih 3 (Hp 1 1 0 0)],Mh []]):=Jh fun W hW =>
  ⟨BL,0,⟨_,2,rfl,Nat.le_refl _,by decide,fun _=>rfl⟩,Kv (V:=VT) (fun _ _ _ _ _ h hv=>VT.at h hv) _ [[.int .i64 5,.int .i64 0,.int .i64 0,.int .i64 0,.slice none 0 0,.slice (some ⟨BT,0,none⟩) 1 1],[.int .i64 5,.int .i64 0,.int .i64 0,.int .i64 0,.slice none 0 0,.slice none 0 0]] W BL 0 (hW.blk ak bx).has rfl (by intro cs h;simp at h;rcases h with rfl | rfl<;>rfl) (fun i h h'=>by
   match i,h with
   | 0,_=>exact ⟨_,_,rfl,Sl.nil _ _,av.out W hW⟩
   | 1,_=>exact ⟨_,_,rfl,Sl.nil _ _,Sl.nil _ _⟩
   | i+2,h=>exact absurd h (by simp))⟩
 clear ak av
 have az:=Ab wa (.cells ([.int .i64 2,.int .i64 0,.int .i64 0,.int .i64 0,.slice (some ⟨BE,0,none⟩) 1 1,.slice (some ⟨BL,0,none⟩) 2 2]:List Value).toArray 44)
 have bc:=Blk.new wa ([.int .i64 2,.int .i64 0,.int .i64 0,.int .i64 0,.slice (some ⟨BE,0,none⟩) 1 1,.slice (some ⟨BL,0,none⟩) 2 2]:List Value).toArray 44
 go_upto_region 3 with (first | ((with_reducible show Js 44);refine Ad rfl 44 _ _ rfl rfl (by first | rfl | simp) rfl Aw (rfl) rfl (by simp [Bc,Value.oneCell']) ?_))
 replace aa:=Jh (aa.out.ext az)
 replace ab:=Jh (ab.out.ext az)
 replace u:=Jh (u.out.trans az)
 replace ao:=Jh (fun W hW=>ao.out W ((Al.of_ext az).trans hW))
 replace a4:=Jh (fun W hW=>a4.out W ((Al.of_ext az).trans hW))
 have b7:M<=(wa.alloc (.cells ([.int .i64 2,.int .i64 0,.int .i64 0,.int .i64 0,.slice (some ⟨BE,0,none⟩) 1 1,.slice (some ⟨BL,0,none⟩) 2 2]:List Value).toArray 44)).heap.size:=by have:=az.size;omega
 generalize wa.alloc _=wb at *
 obtain ⟨BC,bm⟩:∃ B,wa.heap.size=B:=⟨_,rfl⟩
 have cm:M<=BC:=by omega
 rw [bm] at bc ⊢
 have au:Hid (∀ W,Al M wb W->VT W [.int .i64 2,.int .i64 0,.int .i64 0,.int .i64 0,.slice (some ⟨BE,0,none⟩) 1 1,.slice (some ⟨BL,0,none⟩) 2 2] Gm):=Jh fun W hW=>⟨_,_,rfl,ao.out W hW,a4.out W hW⟩
 have ar:=Jh bc
 clear bm bc az ao a4 b6
 refine wp_region_held_drew (S:=fun W=>Blk W BC ([.int .i64 2,.int .i64 0,.int .i64 0,.int .i64 0,.slice (some ⟨BE,0,none⟩) 1 1,.slice (some ⟨BL,0,none⟩) 2 2]:List Value).toArray 44) (by kernel_rfl) ar.out.drew (fun hH=>?_)
 have ah:Ext wb wb.drew:=Below.drew (Below.refl _ _)
 replace aa:=Jh (aa.out.ext ah)
 replace ab:=Jh (ab.out.ext ah)
 replace u:=Jh (u.out.trans ah)
 replace ar:=Jh (ar.out.ext ah)
 replace au:=Jh (fun W hW=>au.out W ((Al.of_ext ah).trans hW))
 have b8:M<=wb.drew.heap.size:=by have:=ah.size;omega
 clear ah b7
 generalize wb.drew=wc at *
 try simp only [J]
 (refine Jt 2 (.agg ([.int .i64 2,.int .i64 0,.int .i64 0,.int .i64 0,.slice (some ⟨BE,0,none⟩) 1 1,.slice (some ⟨BL,0,none⟩) 2 2]:List Value).toArray) rfl (Ar rfl 44 _ rfl rfl (fun _ h=>Blk.has h) Aw rfl) hH ?_;try simp only [J])
 (refine Jr 0 rfl fun K hK=>?_)
 go_simp
 refine (L5 0 _).mono ?_
 rintro r wd ⟨rfl,j⟩
 replace aa:=Jh (aa.out.ext j)
 replace ab:=Jh (ab.out.ext j)
 replace u:=Jh (u.out.trans j)
 replace ar:=Jh (ar.out.ext j)
 replace au:=Jh (fun W hW=>au.out W ((Al.of_ext j).trans hW))
 have a8:M<=wd.heap.size:=by have:=j.size;omega
 refine hK.out _ _ (hH.ext j) (fun hH=>?_)
 clear hK K j b8
 try simp only [J]
 (refine Jr 1 rfl fun K hK=>?_)
 go_simp
 refine (Pv M 2 _ (Hp 1 0 0 0) _ (fun W _=>Vx 0 W) a8).mono ?_
 rintro r we ⟨cq,rfl,cg,ct,bv,j⟩
 replace aa:=Jh (aa.out.ext j)
 replace ab:=Jh (ab.out.ext j)
 replace u:=Jh (u.out.trans j)
 replace ar:=Jh (ar.out.ext j)
 replace au:=Jh (fun W hW=>au.out W ((Al.of_ext j).trans hW))
 have b9:M<=we.heap.size:=by have:=j.size;omega
 have a6:=Jh bv
 refine hK.out _ _ (hH.ext j) (fun hH=>?_)
 clear hK K j a8 bv
 try simp only [J]
 have a2:∀ cs∈[cq,[.int .i64 2,.int .i64 0,.int .i64 0,.int .i64 0,.slice (some ⟨BE,0,none⟩) 1 1,.slice (some ⟨BL,0,none⟩) 2 2]],cs.length=6:=by intro cs h;simp at h;rcases h with rfl | rfl;exact cg;rfl
 (refine Jr 3 rfl fun K hK=>?_)
 refine Rx rfl _ 2 _ rfl Nh (vs:=[.agg cq.toArray,.agg ([.int .i64 2,.int .i64 0,.int .i64 0,.int .i64 0,.slice (some ⟨BE,0,none⟩) 1 1,.slice (some ⟨BL,0,none⟩) 2 2]:List Value).toArray]) rfl rfl (css:=[cq,[.int .i64 2,.int .i64 0,.int .i64 0,.int .i64 0,.slice (some ⟨BE,0,none⟩) 1 1,.slice (some ⟨BL,0,none⟩) 2 2]]) rfl a2 (by decide) (by decide) ?_
 have j:=Ab we (.cells [cq,[.int .i64 2,.int .i64 0,.int .i64 0,.int .i64 0,.slice (some ⟨BE,0,none⟩) 1 1,.slice (some ⟨BL,0,none⟩) 2 2]].flatten.toArray 44)
 have ak:=Blk.new we [cq,[.int .i64 2,.int .i64 0,.int .i64 0,.int .i64 0,.slice (some ⟨BE,0,none⟩) 1 1,.slice (some ⟨BL,0,none⟩) 2 2]].flatten.toArray 44
 replace aa:=Jh (aa.out.ext j)
 replace ab:=Jh (ab.out.ext j)
 replace u:=Jh (u.out.trans j)
 replace ar:=Jh (ar.out.ext j)
 replace au:=Jh (fun W hW=>au.out W ((Al.of_ext j).trans hW))
 replace a6:=Jh (fun W hW=>a6.out W ((Al.of_ext j).trans hW))
 have ca:M<=(we.alloc (.cells [cq,[.int .i64 2,.int .i64 0,.int .i64 0,.int .i64 0,.slice (some ⟨BE,0,none⟩) 1 1,.slice (some ⟨BL,0,none⟩) 2 2]].flatten.toArray 44)).heap.size:=by have:=j.size;omega
 obtain ⟨BQ,br⟩:∃ P,we.heap.size=P:=⟨_,rfl⟩
 have bh:M<=BQ:=by omega
 rw [br] at ak ⊢
 refine hK.out _ _ (hH.ext j) (fun hH=>?_)
 clear hK K j br b9
 generalize we.alloc _=wf at *
 try simp only [J]
 have a7:Hid (∀ W,Al M wf W->Ts W (.slice (some ⟨BQ,0,none⟩) 2 2) [Ih 2 (Hp 1 0 0 0),Gm]):=Jh fun W hW =>
  ⟨BQ,0,⟨_,2,rfl,Nat.le_refl _,by decide,fun _=>rfl⟩,Kv (V:=VT) (fun _ _ _ _ _ h hv=>VT.at h hv) _ [cq,[.int .i64 2,.int .i64 0,.int .i64 0,.int .i64 0,.slice (some ⟨BE,0,none⟩) 1 1,.slice (some ⟨BL,0,none⟩) 2 2]] W BQ 0 (hW.blk ak bh).has rfl a2 (fun i h h'=>by
   match i,h with
   | 0,_=>exact a6.out W hW
   | 1,_=>exact au.out W hW
   | i+2,h=>exact absurd h (by simp))⟩
 clear ak a6 au a2
 (refine Jt 4 (.agg [.bool false,.slice (some ⟨BQ,0,none⟩) 2 2].toArray) rfl (yif_load1 rfl (by intro W3 hW;clear hW;go_simp)) hH ?_;try simp only [J])
 (refine Jr 5 rfl fun K hK=>?_)
 refine Rx rfl _ 1 _ rfl Kl (vs:=[.agg [.bool false,.slice (some ⟨BQ,0,none⟩) 2 2].toArray]) rfl rfl (css:=[[.bool false,.slice (some ⟨BQ,0,none⟩) 2 2]]) rfl (by intro cs h;simp at h;subst h;rfl) (by decide) (by decide) ?_
 have j:=Ab wf (.cells [[Value.bool false,.slice (some ⟨BQ,0,none⟩) 2 2]].flatten.toArray 48)
 have ak:=Blk.new wf [[Value.bool false,.slice (some ⟨BQ,0,none⟩) 2 2]].flatten.toArray 48
 replace aa:=Jh (aa.out.ext j)
 replace ab:=Jh (ab.out.ext j)
 replace u:=Jh (u.out.trans j)
 replace ar:=Jh (ar.out.ext j)
 replace a7:=Jh (fun W hW=>a7.out W ((Al.of_ext j).trans hW))
 obtain ⟨BP,bq⟩:∃ P,wf.heap.size=P:=⟨_,rfl⟩
 have bz:M<=BP:=by omega
 rw [bq] at ak ⊢
 refine hK.out _ _ (hH.ext j) (fun hH=>?_)
 clear hK K j bq ca
 generalize wf.alloc _=wg at *
 try simp only [J]
 have bj:Hid (∀ W,Al M wg W->Hg W (.slice (some ⟨BP,0,none⟩) 1 1) d11.procs):=Jh fun W hW =>
  ⟨BP,0,⟨_,1,rfl,Nat.le_refl _,by decide,fun _=>rfl⟩,⟨_,(hW.blk ak bz).has,a7.out W hW⟩,trivial⟩
 clear ak a7
 (refine Jt 6 (.pointer (some ⟨B1,1,Option.none⟩)) rfl (yif_load1 rfl (by intro W3 hW;clear hW;go_simp)) hH ?_;try simp only [J])
 (refine Jr 7 rfl fun K hK=>?_)
 have x0:=aa.out.has 1 _ rfl
 have y0:=aa.out.frozen 1
 have bt:=aa.out.set 1 (.slice (some ⟨BP,0,none⟩) 1 1)
 have a1:=Ay wg B1 1 (.slice (some ⟨BP,0,none⟩) 1 1)
 replace ab:=Jh (ab.out.grown a1 (by omega))
 replace u:=Jh (Ext.grown u.out a1 (by have:=ce.out;omega))
 have bk:=Jh (bj.out _ ((Al.refl M wg).more a1 (by omega)))
 go_simp
 refine hK.out _ _ (hH.grown a1 (by omega)) (fun hH=>?_)
 clear hK K x0 y0 hH bj ar
 refine Jz ?_
 generalize wg.setCell _ _=wh at *
 replace aa:=Jh (show Blk wh B1 [.slice (some ⟨N,0,none⟩) 4 4,.slice (some ⟨BP,0,none⟩) 1 1,.slice none 0 0].toArray 26 from bt)
 have af:=Jh (show Ck wh (.agg #[.slice (some ⟨N,0,none⟩) 4 4,.slice (some ⟨BP,0,none⟩) 1 1,.slice none 0 0]) d11 from ⟨_,_,_,rfl,Ahl ab.out,bk.out,Sl.nil _ _⟩)
 clear bt a1 ab bk
 go_wp2_with (first | ((with_reducible show Jl 26);refine Aa rfl 26 _ rfl rfl (aa.out.has) Aj rfl ?_) | ((with_reducible show Jw (Op.buildSlice _ _ _));refine Hid.out ?_))
 refine Jh ?_
 have j:=Ab wh (.cells ([[.int .u64 1],[.int .u64 1],[.int .u64 0],[.int .u64 0]]:List (List Value)).flatten.toArray 35)
 have ae:=Blk.new wh ([[.int .u64 1],[.int .u64 1],[.int .u64 0],[.int .u64 0]]:List (List Value)).flatten.toArray 35
 refine Dq rfl _ 4 _ rfl Kn (vs:=[.int .u64 1,.int .u64 1,.int .u64 0,.int .u64 0]) rfl rfl (css:=[[.int .u64 1],[.int .u64 1],[.int .u64 0],[.int .u64 0]]) rfl (by intro cs h;simp at h;rcases h with rfl | rfl<;>rfl) (by decide) (by decide) ?_
 replace aa:=Jh (aa.out.ext j)
 replace af:=Jh (af.out.ext j)
 replace u:=Jh (u.out.trans j)
 obtain ⟨BU,am⟩:∃ P,wh.heap.size=P:=⟨_,rfl⟩
 rw [am] at ae ⊢
 clear am j
 generalize wh.alloc _=wi at *
 have an:Us wi (.slice (some ⟨BU,0,none⟩) 4 4) [1,1,0,0]:=⟨BU,0,⟨_,4,rfl,Nat.le_refl _,by decide,fun _=>rfl⟩,Di (f:=fun x:Nat=>[Value.int .u64 (x:Int)]) (fun _=>rfl) [1,1,0,0] 0 ae.has⟩
 have a9:=Jh (Ou d11 _ [1,1,0,0] _ 0 wi af.out Ni an (by unfold Zc;decide) (by unfold Fp;decide))
 rw [Af7] at a9
 clear an ae
 go_upto_region 5 with (first | (go_at_call 6;refine a9.out.mono ?_;rintro r wj ⟨ua,rfl,cb,j⟩))
 replace aa:=Jh (aa.out.ext j)
 replace af:=Jh (af.out.ext j)
 replace u:=Jh (u.out.trans j)
 have ac:=Jh cb.cells
 clear cb j a9
 have HC:=Jh (Pk d11 _ wj af.out Ni 0 (by decide))
 rw [if_pos I5,if_pos I5,Abq] at HC
 go_upto_region 6 with (first | ((with_reducible show Jl 26);refine Aa rfl 26 _ rfl rfl (aa.out.has) Aj rfl ?_) | (go_at_call 12;refine HC.out.mono ?_;rintro r wk ⟨cw,rfl,hr,j⟩))
 replace aa:=Jh (aa.out.ext j)
 replace af:=Jh (af.out.ext j)
 replace u:=Jh (u.out.trans j)
 replace ac:=Jh (ac.out.ext j)
 have aq:=Jh hr.cells
 clear hr j HC
 have HC:=Jh (U0 d11 _ wk af.out Ni 0 (by decide))
 rw [if_pos I5,if_pos I5,Zx] at HC
 go_upto_region 7 with (first | ((with_reducible show Jl 26);refine Aa rfl 26 _ rfl rfl (aa.out.has) Aj rfl ?_) | (go_at_call 13;refine HC.out.mono ?_;rintro r wl ⟨cy,rfl,hr,j⟩))
 replace aa:=Jh (aa.out.ext j)
 replace af:=Jh (af.out.ext j)
 replace u:=Jh (u.out.trans j)
 replace ac:=Jh (ac.out.ext j)
 replace aq:=Jh (aq.out.ext j)
 have ap:=Jh hr.cells
 clear hr j HC
 have HC:=Jh (Up d11 _ wl af.out Ni 0 (by decide))
 rw [if_pos I5,if_pos I5,Zw] at HC
 go_upto_region 8 with (first | ((with_reducible show Jl 26);refine Aa rfl 26 _ rfl rfl (aa.out.has) Aj rfl ?_) | (go_at_call 14;refine HC.out.mono ?_;rintro r wm ⟨cu,rfl,hr,j⟩))
 replace aa:=Jh (aa.out.ext j)
 replace af:=Jh (af.out.ext j)
 replace u:=Jh (u.out.trans j)
 replace ac:=Jh (ac.out.ext j)
 replace aq:=Jh (aq.out.ext j)
 replace ap:=Jh (ap.out.ext j)
 have al:=Jh hr.cells
 clear hr j HC
 have HC:=Jh (Afx d11 _ wm af.out Ni O4)
 go_upto_region 9 with (first | ((with_reducible show Jl 26);refine Aa rfl 26 _ rfl rfl (aa.out.has) Aj rfl ?_) | (go_at_call 15;refine HC.out.mono ?_;rintro r wn ⟨cl,rfl,hr,j⟩))
 replace aa:=Jh (aa.out.ext j)
 replace af:=Jh (af.out.ext j)
 replace u:=Jh (u.out.trans j)
 replace ac:=Jh (ac.out.ext j)
 replace aq:=Jh (aq.out.ext j)
 replace ap:=Jh (ap.out.ext j)
 replace al:=Jh (al.out.ext j)
 have aj:=Jh (show Ints wn cl [0,1,2,3,4] from Adk ▸ hr.cells)
 clear hr j HC
 have HC:=Jh (Ou d11 _ [] (.slice none 0 0) 0 wn af.out Ni (Sl.nil _ _) (by unfold Zc;decide) (by unfold Fp;decide))
 rw [Adl] at HC
 go_upto_region 10 with (first | ((with_reducible show Jl 26);refine Aa rfl 26 _ rfl rfl (aa.out.has) Aj rfl ?_) | (go_at_call 6;refine HC.out.mono ?_;rintro r wo ⟨cv,rfl,hr,j⟩))
 replace aa:=Jh (aa.out.ext j)
 replace af:=Jh (af.out.ext j)
 replace u:=Jh (u.out.trans j)
 replace ac:=Jh (ac.out.ext j)
 replace aq:=Jh (aq.out.ext j)
 replace ap:=Jh (ap.out.ext j)
 replace al:=Jh (al.out.ext j)
 replace aj:=Jh (aj.out.ext j)
 clear hr j HC
 have HC:=Jh (Pk d11 _ wo af.out Ni 1 (by decide))
 rw [if_neg S8,if_neg S8] at HC
 go_upto_region 11 with (first | ((with_reducible show Jl 26);refine Aa rfl 26 _ rfl rfl (aa.out.has) Aj rfl ?_) | (go_at_call 12;refine HC.out.mono ?_;rintro r wp ⟨cx,rfl,hr,j⟩))
 replace u:=Jh (u.out.trans j)
 replace ac:=Jh (ac.out.ext j)
 replace aq:=Jh (aq.out.ext j)
 replace ap:=Jh (ap.out.ext j)
 replace al:=Jh (al.out.ext j)
 replace aj:=Jh (aj.out.ext j)
 clear hr j HC aa af
 go_wp2_with (first | ((with_reducible show Jw (Op.buildSlice _ _ _));refine Hid.out ?_))
 refine Jh ?_
 have j:=Ab wp (.cells ([[.int .i64 0],[.int .i64 1]]:List (List Value)).flatten.toArray 3)
 have ae:=Blk.new wp ([[.int .i64 0],[.int .i64 1]]:List (List Value)).flatten.toArray 3
 refine Dq rfl _ 2 _ rfl Dh (vs:=[.int .i64 0,.int .i64 1]) rfl rfl (css:=[[.int .i64 0],[.int .i64 1]]) rfl (by intro cs h;simp at h;rcases h with rfl | rfl<;>rfl) (by decide) (by decide) ?_
 replace u:=Jh (u.out.trans j)
 replace ac:=Jh (ac.out.ext j)
 replace aq:=Jh (aq.out.ext j)
 replace ap:=Jh (ap.out.ext j)
 replace al:=Jh (al.out.ext j)
 replace aj:=Jh (aj.out.ext j)
 obtain ⟨be,am⟩:∃ P,wp.heap.size=P:=⟨_,rfl⟩
 rw [am] at ae ⊢
 clear am j
 generalize wp.alloc _=wq at *
 have an:Ints wq (.slice (some ⟨be,0,none⟩) 2 2) [0,1]:=⟨be,0,⟨_,2,rfl,Nat.le_refl _,by decide,fun _=>rfl⟩,Di (f:=fun x:Int=>[Value.int .i64 x]) (fun _=>rfl) [0,1] 0 ae.has⟩
 have HI:=Jh (Hi _ _ _ _ wq aq.out an (by decide))
 rw [decide_eq_true rfl] at HI
 clear an ae aq
 go_wp2_with (first | (go_at_call 16;refine HI.out.mono ?_;rintro r wr ⟨rfl,j⟩;have ag:=Jh j;clear j) | ((with_reducible show Jw (Op.buildSlice _ _ _));refine Hid.out ?_))
 replace u:=Jh (u.out.trans ag.out)
 replace ac:=Jh (ac.out.ext ag.out)
 replace ap:=Jh (ap.out.ext ag.out)
 replace al:=Jh (al.out.ext ag.out)
 replace aj:=Jh (aj.out.ext ag.out)
 clear ag HI
 refine Jh ?_
 have j:=Ab wr (.cells ([[.int .i64 2],[.int .i64 3]]:List (List Value)).flatten.toArray 3)
 have ae:=Blk.new wr ([[.int .i64 2],[.int .i64 3]]:List (List Value)).flatten.toArray 3
 refine Dq rfl _ 2 _ rfl Dh (vs:=[.int .i64 2,.int .i64 3]) rfl rfl (css:=[[.int .i64 2],[.int .i64 3]]) rfl (by intro cs h;simp at h;rcases h with rfl | rfl<;>rfl) (by decide) (by decide) ?_
 replace u:=Jh (u.out.trans j)
 replace ac:=Jh (ac.out.ext j)
 replace ap:=Jh (ap.out.ext j)
 replace al:=Jh (al.out.ext j)
 replace aj:=Jh (aj.out.ext j)
 obtain ⟨bf,am⟩:∃ P,wr.heap.size=P:=⟨_,rfl⟩
 rw [am] at ae ⊢
 clear am j
 generalize wr.alloc _=ws at *
 have an:Ints ws (.slice (some ⟨bf,0,none⟩) 2 2) [2,3]:=⟨bf,0,⟨_,2,rfl,Nat.le_refl _,by decide,fun _=>rfl⟩,Di (f:=fun x:Int=>[Value.int .i64 x]) (fun _=>rfl) [2,3] 0 ae.has⟩
 have HI:=Jh (Hi _ _ _ _ ws ap.out an (by decide))
 rw [decide_eq_true rfl] at HI
 clear an ae ap
 go_wp2_with (first | (go_at_call 16;refine HI.out.mono ?_;rintro r wt ⟨rfl,j⟩;have ag:=Jh j;clear j) | ((with_reducible show Jw (Op.buildSlice _ _ _));refine Hid.out ?_))
 replace u:=Jh (u.out.trans ag.out)
 replace ac:=Jh (ac.out.ext ag.out)
 replace al:=Jh (al.out.ext ag.out)
 replace aj:=Jh (aj.out.ext ag.out)
 clear ag HI
 refine Jh ?_
 have j:=Ab wt (.cells ([[.int .i64 2]]:List (List Value)).flatten.toArray 3)
 have ae:=Blk.new wt ([[.int .i64 2]]:List (List Value)).flatten.toArray 3
 refine Dq rfl _ 1 _ rfl Dh (vs:=[.int .i64 2]) rfl rfl (css:=[[.int .i64 2]]) rfl (by intro cs h;simp at h;rcases h with rfl<;>rfl) (by decide) (by decide) ?_
 replace u:=Jh (u.out.trans j)
 replace ac:=Jh (ac.out.ext j)
 replace al:=Jh (al.out.ext j)
 replace aj:=Jh (aj.out.ext j)
 obtain ⟨bg,am⟩:∃ P,wt.heap.size=P:=⟨_,rfl⟩
 rw [am] at ae ⊢
 clear am j
 generalize wt.alloc _=wu at *
 have an:Ints wu (.slice (some ⟨bg,0,none⟩) 1 1) [2]:=⟨bg,0,⟨_,1,rfl,Nat.le_refl _,by decide,fun _=>rfl⟩,Di (f:=fun x:Int=>[Value.int .i64 x]) (fun _=>rfl) [2] 0 ae.has⟩
 have HI:=Jh (Hi _ _ _ _ wu al.out an (by decide))
 rw [decide_eq_true rfl] at HI
 clear an ae al
 go_wp2_with (first | (go_at_call 16;refine HI.out.mono ?_;rintro r wv ⟨rfl,j⟩;have ag:=Jh j;clear j) | ((with_reducible show Jw (Op.buildSlice _ _ _));refine Hid.out ?_))
 replace u:=Jh (u.out.trans ag.out)
 replace ac:=Jh (ac.out.ext ag.out)
 replace aj:=Jh (aj.out.ext ag.out)
 clear ag HI
 refine Jh ?_
 have j:=Ab wv (.cells ([[.int .i64 0],[.int .i64 1],[.int .i64 2],[.int .i64 3],[.int .i64 4]]:List (List Value)).flatten.toArray 3)
 have ae:=Blk.new wv ([[.int .i64 0],[.int .i64 1],[.int .i64 2],[.int .i64 3],[.int .i64 4]]:List (List Value)).flatten.toArray 3
 refine Dq rfl _ 5 _ rfl Dh (vs:=[.int .i64 0,.int .i64 1,.int .i64 2,.int .i64 3,.int .i64 4]) rfl rfl (css:=[[.int .i64 0],[.int .i64 1],[.int .i64 2],[.int .i64 3],[.int .i64 4]]) rfl (by intro cs h;simp at h;rcases h with rfl | rfl | rfl | rfl | rfl<;>rfl) (by decide) (by decide) ?_
 replace u:=Jh (u.out.trans j)
 replace ac:=Jh (ac.out.ext j)
 replace aj:=Jh (aj.out.ext j)
 obtain ⟨bi,am⟩:∃ P,wv.heap.size=P:=⟨_,rfl⟩
 rw [am] at ae ⊢
 clear am j
 generalize wv.alloc _=ww at *
 have an:Ints ww (.slice (some ⟨bi,0,none⟩) 5 5) [0,1,2,3,4]:=⟨bi,0,⟨_,5,rfl,Nat.le_refl _,by decide,fun _=>rfl⟩,Di (f:=fun x:Int=>[Value.int .i64 x]) (fun _=>rfl) [0,1,2,3,4] 0 ae.has⟩
 have HI:=Jh (Hi _ _ _ _ ww aj.out an (by decide))
 rw [decide_eq_true rfl] at HI
 clear an ae aj
 go_wp2_with (first | (go_at_call 16;refine HI.out.mono ?_;rintro r wx ⟨rfl,j⟩;have ag:=Jh j;clear j) | ((with_reducible show Jw (Op.buildSlice _ _ _));refine Hid.out ?_))
 replace u:=Jh (u.out.trans ag.out)
 replace ac:=Jh (ac.out.ext ag.out)
 clear ag HI
 refine Jh ?_
 have j:=Ab wx (.cells ([[.int .u64 1],[.int .u64 1],[.int .u64 1],[.int .u64 1]]:List (List Value)).flatten.toArray 35)
 have ae:=Blk.new wx ([[.int .u64 1],[.int .u64 1],[.int .u64 1],[.int .u64 1]]:List (List Value)).flatten.toArray 35
 refine Dq rfl _ 4 _ rfl Kn (vs:=[.int .u64 1,.int .u64 1,.int .u64 1,.int .u64 1]) rfl rfl (css:=[[.int .u64 1],[.int .u64 1],[.int .u64 1],[.int .u64 1]]) rfl (by intro cs h;simp at h;subst h;rfl) (by decide) (by decide) ?_
 replace u:=Jh (u.out.trans j)
 replace ac:=Jh (ac.out.ext j)
 obtain ⟨BV,am⟩:∃ P,wx.heap.size=P:=⟨_,rfl⟩
 rw [am] at ae ⊢
 clear am j
 generalize wx.alloc _=wy at *
 have an:Us wy (.slice (some ⟨BV,0,none⟩) 4 4) [1,1,1,1]:=⟨BV,0,⟨_,4,rfl,Nat.le_refl _,by decide,fun _=>rfl⟩,Di (f:=fun x:Nat=>[Value.int .u64 (x:Int)]) (fun _=>rfl) [1,1,1,1] 0 ae.has⟩
 have HI:=Jh (Mw _ _ _ _ wy ac.out an (by decide))
 rw [decide_eq_true rfl] at HI
 clear an ae
 go_wp2_with (first | (go_at_call 8;refine HI.out.mono ?_;rintro r wz ⟨rfl,j⟩))
 go_ret
 exact ⟨rfl,u.out.trans j⟩
end Go.Proofs.YtbliplladmamoaaGreat
