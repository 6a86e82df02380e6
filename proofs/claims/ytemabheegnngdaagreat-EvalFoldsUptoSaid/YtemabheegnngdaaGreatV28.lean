/- Laws and walks that a claim of this seat leans on: Ref14, Ref15, Ref16. -/
import Derived.Test.YtemabheegnngdaaGreatV27
import Derived.Test.YtemabheegnngdaaGreatV23
import Derived.Test.YtemabheegnngdaaGreatV00
set_option linter.all false
namespace Go.Proofs.YtemabheegnngdaaGreat
open Go.RowKit
theorem sizeE_w {e y:E} (h:sizeE e 0=.ok y):y.w=told (own e) 32:=by
 rw [sizeE_eq] at h
 have h0:told (if (0:Int) = -1 then 1 else 0) (told (own e) 32)=told (own e) 32:=by simp [told]
 rw [h0,if_neg (by omega)] at h
 split at h
 ·split at h
  ·injection h with h;rw [← h]
  ·cases h
 ·split at h
  ·cases h
  ·split at h
   ·cases h
   ·split at h
    ·cases h
    ·injection h with h;rw [← h]
theorem oneSome (ls:List Signal) (hls:∀ x ∈ ls,x.w ≤ 64) (ck:Bool) (t:T) :
  (shapeT ls t=true→t.wf→nodesT t ≤ 1048576→OneR ls ck t)∧(t.l.all (shapeT ls)=true→(∀ x ∈ t.l,x.wf)→sumBy nodesT t.l ≤ 1048576→SomeR ls ck t.l):=by
 induction t using T.ind with
 | h t ih =>
  have hsecond:t.l.all (shapeT ls)=true→(∀ x ∈ t.l,x.wf)→sumBy nodesT t.l ≤ 1048576→SomeR ls ck t.l:=by
   intro h1 h2 h3
   refine some_stepR ls ck t.l (fun x hx=>(ih x hx).1 (List.all_eq_true.1 h1 x hx) (h2 x hx) (by have:=le_sumBy nodesT t.l x hx;omega)) ?_
   have:=length_le_sumBy nodesT t.l (fun x _=>by rw [nodesT_eq];omega)
   omega
  refine ⟨?_,hsecond⟩
  intro hsh hwf hnb
  obtain ⟨-,-,-,-,hew,hlw⟩:=(T.wf_iff t).1 hwf
  have hn:=nodesT_eq t
  have hshape:∀ x ∈ t.e,shape ls x=true:=by
   intro x hx
   rw [shapeT_eq] at hsh
   split at hsh
   ·cases hsh
   ·rename_i h0
    have h1:(t.e.any fun x=>!shape ls x)=false:=by
     cases hh:(t.e.any fun x=>!shape ls x)
     ·rfl
     ·exfalso;apply h0;rw [hh];rfl
    have:=List.any_eq_false.1 h1 x hx
    simpa using this
  have hnx:∀ x ∈ t.e,nodes x ≤ 1048576:=fun x hx=>by have:=le_sumBy nodes t.e x hx;omega
  refine one_stepR ls hls ck t ⟨hsh,hwf,fun x hx=>sized_callsR hls x (hshape x hx) (hew x hx) (hnx x hx),fun x hx cs w hv=>bit_callsR hls x (hshape x hx) (hew x hx) (hnx x hx) cs w hv,?_,?_,?_⟩
  ·intro x hx y hy
   have h1:=sizeE_w hy
   have h2:=own_le x (ownOk_of_shape ls hls x (hshape x hx))
   have h3:=hnx x hx
   rw [h1];unfold told
   split <;> omega
  ·intro h3
   refine hsecond ?_ hlw (by omega)
   rw [shapeT_eq] at hsh
   split at hsh
   ·cases hsh
   ·try rw [if_neg h3] at hsh
    split at hsh
    ·simp only [Bool.and_eq_true,decide_eq_true_eq] at hsh
     rw [List.eq_nil_of_length_eq_zero hsh.1.2];rfl
    ·split at hsh
     ·rw [Bool.and_eq_true] at hsh;exact hsh.2
     ·split at hsh
      ·rw [Bool.and_eq_true] at hsh;exact hsh.2
      ·cases hsh
  ·intro h3 wd hw0 hw1 s0 s w hS hT
   rw [shapeT_eq] at hsh
   split at hsh
   ·cases hsh
   ·try rw [if_pos h3] at hsh
    simp only [Bool.and_eq_true,decide_eq_true_eq] at hsh
    have harm:∀ x ∈ t.l,shapeT.armT ls x=true:=by
     intro x hx
     obtain ⟨k,hk,rfl⟩:=List.getElem_of_mem hx
     exact ((arms_iff ls t.l).1 hsh.2.1 k hk).2
    have hlen:=length_le_sumBy nodesT t.l (fun x _=>by rw [nodesT_eq];omega)
    have hx1:∀ x ∈ t.l,nodesT x ≤ 1048576:=fun x hx=>by have:=le_sumBy nodesT t.l x hx;omega
    have hax:∀ x ∈ t.l,(∀ y ∈ x.e,shape ls y=true)∧x.l.all (shapeT ls)=true:=by
     intro x hx
     have h:=harm x hx
     rw [shapeT.armT_eq] at h
     simp only [Bool.and_eq_true,decide_eq_true_eq] at h
     refine ⟨fun y hy=>?_,h.2⟩
     have:=List.all_eq_true.1 h.1.2 y hy
     simp only [Bool.and_eq_true] at this
     exact this.2
    refine cases_stepR ls ck wd hw0 hw1 t.l harm ?_ ?_ (by omega) ?_ s0 s w hS hT
    ·intro x hx y hy
     have h1:=hx1 x hx
     rw [nodesT_eq] at h1
     have h2:=le_sumBy nodes x.e y hy
     exact sized_callsR hls y ((hax x hx).1 y hy) (((T.wf_iff x).1 (hlw x hx)).2.2.2.2.1 y hy) (by omega)
    ·intro x hx
     have h1:=hx1 x hx
     rw [nodesT_eq] at h1
     exact (ih x hx).2 (hax x hx).2 ((T.wf_iff x).1 (hlw x hx)).2.2.2.2.2 (by omega)
    ·intro x hx
     have h1:=hx1 x hx
     rw [nodesT_eq] at h1
     have:=length_le_sumBy nodes x.e (fun x _=>nodes_pos x)
     omega
theorem some_callsR (ls:List Signal) (hls:∀ x ∈ ls,x.w ≤ 64) (ck:Bool) (l:List T) (h1:l.all (shapeT ls)=true) (h2:∀ x ∈ l,x.wf) (h3:sumBy nodesT l ≤ 1048576):SomeR ls ck l :=
 (oneSome ls hls ck ⟨5,0,0,0,[],l⟩).2 h1 h2 h3
/-! ### how large a design may be -/
set_option maxRecDepth 100000 in
set_option maxHeartbeats 2000000 in
theorem bound_callsR (d:Flat) (v:Value) (w:World) (h:FlatV w v d) (hb:mNodes d ≤ 1048576) (hl:d.signals.length ≤ 1048576) :
  Calls Tryz.prog 150 #[v] w fun r w'=>r=.returned (.bool (fitsM d))∧Ext w w':=by
 have HF:=Lib.hid h
 have HME:=Lib.hid (fun W (hx:Ext w W)=>measure_calls d v W (h.ext hx) hb)
 obtain ⟨sv,pv,cv,rfl,hS,hP,hC⟩:=h
 obtain ⟨xs,bs,os,caps,e1,hs1,hs2,hs3,hsr⟩:=hS.open
 obtain ⟨ap,bp,op,capp,e2,-,-,-,-⟩:=hP.open
 obtain ⟨ac,bc,oc,capc,e3,-,-,-,-⟩:=hC.open
 subst e1;subst e2;subst e3
 have HSR:=Lib.hid hsr
 have HS3:=Lib.hid hs3
 have hbits:=bits5_le d.signals
 have hm:=mDeep_le d
 have hx:=ext_alloc w (.cells [.slice xs d.signals.length caps,.slice ap d.procs.length capp,.slice ac d.checks.length capc].toArray 26)
 have hbx:=Has.alloc w [.slice xs d.signals.length caps,.slice ap d.procs.length capp,.slice ac d.checks.length capc] 26
 have HM:=Lib.hid (show fitsM d=(decide (d.signals.length ≤ 512) && decide (d.procs.length ≤ 1024) && decide (bits5 d.signals ≤ 4096) && (decide (mNodes d ≤ 65536) && decide (mDeep d ≤ 64))) by
  unfold fitsM
  have:=bits5_iff d.signals 0
  rw [Nat.zero_add,Nat.zero_add] at this
  rw [show decide (bitsN d.signals ≤ 4096)=decide (bits5 d.signals ≤ 4096) from decide_eq_decide.2 this.symm])
 clear hS hP hC hsr hs3
 go_enter Tryz.func150,Tryz.ntmps150
 go_upto_region 1 with fail
 generalize w.alloc _=w0 at *
 have HX:=Lib.hid hx
 have HB:=Lib.hid hbx
 clear hx hbx
 go_wp2_with fail
 go_loopw [3,4] (fun n i wr=>∃ k:Nat,k ≤ d.signals.length∧i=.int .i64 k∧n=.int .i64 ((bits5 (d.signals.take k):Nat):Int)∧Ext w0 wr) (fun _ i _=>d.signals.length - (intOf i).toNat)
 case atStart=>exact ⟨0,Nat.zero_le _,rfl,rfl,Below.refl _ _⟩
 case round =>
  obtain ⟨k,hk,rfl,rfl,hB⟩:=hrel
  have HBX:=Lib.hid hB
  have y0:=(HB.out.ext hB) 0 _ rfl
  rw [Nat.add_zero] at y0
  clear hB
  by_cases hlt:k < d.signals.length
  ·have he:=Sigs.get (HSR.out.mono fun x _ b o h=>SigAt.ext' (HX.out.trans HBX.out) h) hlt
   obtain rfl:=HS3.out (by omega)
   have y1:=he 1 _ rfl
   have hbk:=bits5_le (d.signals.take k)
   rw [List.length_take] at hbk
   have HTK:=Lib.hid (show bits5 (d.signals.take (k + 1))=bits5 (d.signals.take k) + (min (max d.signals[k].w 0) 5000).toNat by
    unfold bits5;rw [sumBy_take _ _ _ hlt])
   obtain ⟨x,hx⟩ : ∃ x,d.signals[k]=x:=⟨_,rfl⟩
   rw [hx] at y1 HTK
   clear hx he
   obtain ⟨nb,hnb⟩ : ∃ nb,bits5 (d.signals.take k)=nb:=⟨_,rfl⟩
   rw [hnb] at HTK hbk ⊢
   clear hnb
   go_wp2_with fail
   go_roundw
   case rel=>exact ⟨k + 1,by omega,by go_num,by rw [HTK.out];congr 1;omega,HBX.out⟩
   case measure=>simp [intOf];omega
  ·obtain rfl:k=d.signals.length:=by omega
   rw [List.take_length]
   have HBW:=Lib.hid (HB.out.ext HBX.out)
   have y1:=HBW.out 1 _ rfl
   obtain ⟨nb,hnb⟩ : ∃ nb,bits5 d.signals=nb:=⟨_,rfl⟩
   rw [hnb] at hbits HM ⊢
   clear hnb
   go_upto_region 7 with (first | ((with_reducible show Jw (Op.load 26 _));refine wpList_load_has rfl 26 _ rfl rfl (HBW.out) agg_Flat rfl ?_) | (go_at_call 69;refine (HME.out _ (HX.out.trans HBX.out)).mono ?_;rintro r w1 ⟨rfl,hx1⟩))
   have y0:=(HBW.out.ext hx1) 0 _ rfl
   rw [Nat.add_zero] at y0
   have y1:=(HBW.out.ext hx1) 1 _ rfl
   go_wp2_with fail
   all_goals go_ret
   all_goals exact ⟨ret_bool (by rw [HM.out];refine Bool.eq_iff_iff.2 ?_;simp;omega),HX.out.trans (HBX.out.trans hx1)⟩
open Go.RowKit
theorem shapedM_iff (d:Flat):shapedM d=((d.procs.all fun p=>p.l.all (shapeT d.signals)) && (d.checks.all fun c=>shape d.signals c.e) && sigsOk [[]] d.signals):=by
 have e1:(d.procs.any fun p=>p.l.any fun t=>!shapeT d.signals t) = !(d.procs.all fun p=>p.l.all (shapeT d.signals)):=by
  rw [List.not_all_eq_any_not]
  congr 1;funext p
  rw [List.not_all_eq_any_not]
 have e2:(d.checks.any fun c=>!shape d.signals c.e) = !(d.checks.all fun c=>shape d.signals c.e):=by
  rw [List.not_all_eq_any_not]
 unfold shapedM
 first
  | (rw [e1,e2];cases (d.procs.all fun p=>p.l.all (shapeT d.signals)) <;> cases (d.checks.all fun c=>shape d.signals c.e) <;> cases sigsOk [[]] d.signals <;> rfl)
  | (simp only [e1,e2];cases (d.procs.all fun p=>p.l.all (shapeT d.signals)) <;> cases (d.checks.all fun c=>shape d.signals c.e) <;> cases sigsOk [[]] d.signals <;> rfl)
set_option maxRecDepth 100000 in
set_option maxHeartbeats 4000000 in
theorem shaped_callsR (d:Flat) (v:Value) (w:World) (h:FlatV w v d) (hwf:d.wf) (hl:d.signals.length ≤ 1048576) :
  Calls Tryz.prog 151 #[v] w fun r w'=>r=.returned (.bool (shapedM d))∧Ext w w':=by
 obtain ⟨sv,pv,cv,rfl,hS,hP,hC⟩:=h
 have HST:=Lib.hid (fun (p:Proc) (hp:p ∈ d.procs) (s:Value) W (hx:Ext w W) (ht:Ts W s p.l)=>statements_callsR d.signals p.l (fun t _=>statement_callsR d.signals t) (hwf.procs p hp) sv s W (hS.ext hx) ht)
 have HSHE:=Lib.hid (fun (c:Chk) (hc:c ∈ d.checks) (s:Value) W (hx:Ext w W) (he:Es W s c.e.l)=>Shape_callsR d.signals c.e sv _ W (hS.ext hx) ⟨s,rfl,he⟩ (hwf.checks c hc))
 have HSG:=Lib.hid (fun W (hx:Ext w W)=>Signals_callsR d.signals sv W (hS.ext hx) hl)
 have HM:=Lib.hid (shapedM_iff d)
 have HSV:=Lib.hid hS
 obtain ⟨xs,bs,os,caps,e1,-,-,-,-⟩:=hS.open
 obtain ⟨ap,bp,op,capp,e2,hp1,hp2,hp3,hpr⟩:=hP.open
 obtain ⟨ac,bc,oc,capc,e3,hq1,hq2,hq3,hqr⟩:=hC.open
 subst e1;subst e2;subst e3
 have HPR:=Lib.hid hpr
 have HP3:=Lib.hid hp3
 have HQR:=Lib.hid hqr
 have HQ3:=Lib.hid hq3
 have hx:=ext_alloc w (.cells [.slice xs d.signals.length caps,.slice ap d.procs.length capp,.slice ac d.checks.length capc].toArray 26)
 have hbx:=Has.alloc w [.slice xs d.signals.length caps,.slice ap d.procs.length capp,.slice ac d.checks.length capc] 26
 clear hS hP hC hpr hp3 hqr hq3 hwf
 go_enter Tryz.func151,Tryz.ntmps151
 go_upto_region 1 with fail
 generalize w.alloc _=w0 at *
 have HX:=Lib.hid hx
 have HB:=Lib.hid hbx
 clear hx hbx
 go_wp2_with fail
 go_loopw [3] (fun i wr=>∃ k:Nat,k ≤ d.procs.length∧i=.int .i64 k∧((d.procs.take k).all fun p=>p.l.all (shapeT d.signals))=true∧Ext w0 wr) (fun i _=>d.procs.length - (intOf i).toNat)
 case atStart=>exact ⟨0,Nat.zero_le _,rfl,rfl,Below.refl _ _⟩
 case round =>
  obtain ⟨k,hk,rfl,hall,hB⟩:=hrel
  have HALL:=Lib.hid hall
  have HBX:=Lib.hid hB
  have y1:=(HB.out.ext hB) 1 _ rfl
  clear hall hB
  by_cases hlt:k < d.procs.length
  ·obtain ⟨sp,q1,q2⟩:=Procs.get (HPR.out.mono fun x _ b o h=>ProcAt.ext' (HX.out.trans HBX.out) h) hlt
   obtain rfl:=HP3.out (by omega)
   have hmem:=List.getElem_mem hlt
   have HC:=Lib.hid (fun W (hx:Ext wr W)=>HST.out _ hmem sp W (HX.out.trans (HBX.out.trans hx)) (q2.ext hx))
   have HTK:=Lib.hid (take_snoc d.procs k hlt)
   obtain ⟨p,hp⟩ : ∃ p,d.procs[k]=p:=⟨_,rfl⟩
   rw [hp] at HC HTK q1 hmem
   have HQ1:=Lib.hid q1
   obtain ⟨c,hc⟩ : ∃ c,p.l.all (shapeT d.signals)=c:=⟨_,rfl⟩
   rw [hc] at HC
   have HCC:=Lib.hid hc
   clear hp hc q1 q2
   go_upto_region 4 with fail
   clear y1
   refine wp_region_held_drew (S:=fun W=>Ext wr W) (by kernel_rfl) (Below.drew (Below.refl _ _)) (fun hHeld=>?_)
   try simp only [J]
   (refine Jt 0 (_) rfl (yif_load1 rfl (by intro W hW;clear hW;go_simp;rfl)) hHeld ?_;try simp only [J])
   (refine Jt 1 (.slice xs d.signals.length caps) rfl (yif_load1 rfl (by intro W hW;have y7:=(HB.out.ext (HBX.out.trans hW)) 0 _ rfl;rw [Nat.add_zero] at y7;clear hW;go_simp)) hHeld ?_;try simp only [J])
   (refine Jt 2 (_) rfl (yif_load1 rfl (by intro W hW;clear hW;go_simp;rfl)) hHeld ?_;try simp only [J])
   (refine Jt 3 (.slice (some ⟨bp,op,Option.none⟩) d.procs.length capp) rfl (yif_load1 rfl (by intro W hW;have y7:=(HB.out.ext (HBX.out.trans hW)) 1 _ rfl;clear hW;go_simp)) hHeld ?_;try simp only [J])
   (refine Jt 4 (_) rfl (yif_load1 rfl fun _ _=>rfl) hHeld ?_;try simp only [J])
   (refine Jt 5 (.pointer (some ⟨bp,op + k * 2,Option.none⟩)) rfl (yif_load1 rfl (by intro W hW;clear hW;go_simp;try (intro h;omega))) hHeld ?_;try simp only [J])
   (refine Jt 6 (_) rfl (yif_load1 rfl (by intro W hW;clear hW;go_simp;rfl)) hHeld ?_;try simp only [J])
   (refine Jt 7 (sp) rfl (yif_load1 rfl (by intro W hW;have y0:W.cell? ⟨bp,op + k * 2 + 1,none⟩=some sp:=(HQ1.out.ext hW) 1 _ rfl;clear hW;go_simp)) hHeld ?_;try simp only [J])
   refine wpAnyH_ready (rs:=[8]) (by kernel_rfl) (by simp) ?_
   refine AllReadyH.cons rfl (fun K hK=>?_) AllReadyH.nil
   go_simp
   refine (HC.out _ hHeld).mono ?_
   rintro r w1 ⟨rfl,hx1⟩
   refine hK.out _ _ (hHeld.trans hx1) (fun hHeld=>?_)
   clear hK K
   try simp only [J]
   (refine Jt 9 (.bool (!c)) rfl (yif_load1 rfl (by intro W hW;clear hW;go_simp)) hHeld ?_;try simp only [J])
   refine wpAnyH_done (by kernel_rfl) ?_ _
   cases c
   ·have HF:=Lib.hid (show shapedM d=false by
     rw [HM.out]
     have:(d.procs.all fun p=>p.l.all (shapeT d.signals))=false:=by rw [List.all_eq_false];exact ⟨p,hmem,by rw [HCC.out];decide⟩
     rw [this];rfl)
    go_wp2_with fail
    go_ret
    exact ⟨ret_bool HF.out.symm,HX.out.trans (HBX.out.trans hHeld)⟩
   ·go_wp2_with fail
    go_roundw
    case rel=>exact ⟨k + 1,by omega,by go_num,by rw [HTK.out,List.all_append,HALL.out];simp [HCC.out],HBX.out.trans hHeld⟩
    case measure=>simp [intOf];omega
  ·obtain rfl:k=d.procs.length:=by omega
   have hall:=HALL.out
   rw [List.take_length] at hall
   have HALP:=Lib.hid hall
   have HBW:=Lib.hid (HB.out.ext HBX.out)
   have HXW:=Lib.hid (HX.out.trans HBX.out)
   clear hall
   obtain ⟨wo,rfl⟩ : ∃ x,x=wr:=⟨_,rfl⟩
   go_wp2_with fail
   clear y1
   go_loopw [4] (fun i wr=>∃ k:Nat,k ≤ d.checks.length∧i=.int .i64 k∧((d.checks.take k).all fun c=>shape d.signals c.e)=true∧Ext wo wr) (fun i _=>d.checks.length - (intOf i).toNat)
   case atStart=>exact ⟨0,Nat.zero_le _,rfl,rfl,Below.refl _ _⟩
   case round =>
    obtain ⟨k,hk,rfl,hall,hB⟩:=hrel
    have HALL2:=Lib.hid hall
    have HBX2:=Lib.hid hB
    have y2:=(HBW.out.ext hB) 2 _ rfl
    clear hall hB
    by_cases hlt:k < d.checks.length
    ·obtain ⟨sp,q1,q2⟩:=Chks.get (HQR.out.mono fun x _ b o h=>ChkAt.ext' (HXW.out.trans HBX2.out) h) hlt
     obtain rfl:=HQ3.out (by omega)
     have hmem:=List.getElem_mem hlt
     have HC:=Lib.hid (fun W (hx:Ext wr W)=>HSHE.out _ hmem sp W (HXW.out.trans (HBX2.out.trans hx)) (q2.ext hx))
     have HTK:=Lib.hid (take_snoc d.checks k hlt)
     obtain ⟨p,hp⟩ : ∃ p,d.checks[k]=p:=⟨_,rfl⟩
     rw [hp] at HC HTK q1 hmem
     have HQ1:=Lib.hid q1.tail
     obtain ⟨c,hc⟩ : ∃ c,shape d.signals p.e=c:=⟨_,rfl⟩
     rw [hc] at HC
     have HCC:=Lib.hid hc
     clear hp hc q1 q2
     go_upto_region 9 with fail
     clear y2
     refine wp_region_held_drew (S:=fun W=>Ext wr W) (by kernel_rfl) (Below.drew (Below.refl _ _)) (fun hHeld=>?_)
     try simp only [J]
     (refine Jt 0 (_) rfl (yif_load1 rfl (by intro W hW;clear hW;go_simp;rfl)) hHeld ?_;try simp only [J])
     (refine Jt 1 (.slice xs d.signals.length caps) rfl (yif_load1 rfl (by intro W hW;have y7:=(HBW.out.ext (HBX2.out.trans hW)) 0 _ rfl;rw [Nat.add_zero] at y7;clear hW;go_simp)) hHeld ?_;try simp only [J])
     (refine Jt 2 (_) rfl (yif_load1 rfl (by intro W hW;clear hW;go_simp;rfl)) hHeld ?_;try simp only [J])
     (refine Jt 3 (.slice (some ⟨bc,oc,Option.none⟩) d.checks.length capc) rfl (yif_load1 rfl (by intro W hW;have y7:=(HBW.out.ext (HBX2.out.trans hW)) 2 _ rfl;clear hW;go_simp)) hHeld ?_;try simp only [J])
     (refine Jt 4 (_) rfl (yif_load1 rfl fun _ _=>rfl) hHeld ?_;try simp only [J])
     (refine Jt 5 (.pointer (some ⟨bc,oc + k * 9,Option.none⟩)) rfl (yif_load1 rfl (by intro W hW;clear hW;go_simp;try (intro h;omega))) hHeld ?_;try simp only [J])
     (refine Jt 6 (.pointer (some ⟨bc,oc + k * 9 + 1,Option.none⟩)) rfl (yif_load1 rfl (by intro W hW;clear hW;go_simp)) hHeld ?_;try simp only [J])
     (refine Jt 7 (.agg (p.e.cells sp).toArray) rfl (yif_load rfl 44 _ rfl rfl (fun W hW=>HQ1.out.ext hW) agg_E rfl) hHeld ?_;try simp only [J])
     refine wpAnyH_ready (rs:=[8]) (by kernel_rfl) (by simp) ?_
     refine AllReadyH.cons rfl (fun K hK=>?_) AllReadyH.nil
     go_simp
     refine (HC.out _ hHeld).mono ?_
     rintro r w1 ⟨rfl,hx1⟩
     refine hK.out _ _ (hHeld.trans hx1) (fun hHeld=>?_)
     clear hK K
     try simp only [J]
     (refine Jt 9 (.bool (!c)) rfl (yif_load1 rfl (by intro W hW;clear hW;go_simp)) hHeld ?_;try simp only [J])
     refine wpAnyH_done (by kernel_rfl) ?_ _
     cases c
     ·have HF:=Lib.hid (show shapedM d=false by
       rw [HM.out]
       have:(d.checks.all fun c=>shape d.signals c.e)=false:=by rw [List.all_eq_false];exact ⟨p,hmem,by rw [HCC.out];decide⟩
       rw [this,Bool.and_false];rfl)
      go_wp2_with fail
      go_ret
      exact ⟨ret_bool HF.out.symm,HXW.out.trans (HBX2.out.trans hHeld)⟩
     ·go_wp2_with fail
      go_roundw
      case rel=>exact ⟨k + 1,by omega,by go_num,by rw [HTK.out,List.all_append,HALL2.out];simp [HCC.out],HBX2.out.trans hHeld⟩
      case measure=>simp [intOf];omega
    ·obtain rfl:k=d.checks.length:=by omega
     have hall:=HALL2.out
     rw [List.take_length] at hall
     have HF:=Lib.hid (show shapedM d=sigsOk [[]] d.signals by rw [HM.out,HALP.out,hall];simp)
     have y0:=(HBW.out.ext HBX2.out) 0 _ rfl
     rw [Nat.add_zero] at y0
     clear hall
     go_wp2_with (first | (go_at_call 109;refine (HSG.out _ (HXW.out.trans HBX2.out)).mono ?_;rintro r w1 ⟨rfl,hx1⟩))
     go_ret
     exact ⟨ret_bool HF.out.symm,HXW.out.trans (HBX2.out.trans hx1)⟩
open Go.RowKit
theorem RowIs.slice {α : Type} {V:World→List Value→α→Prop} {e:TypeId} {size N:Nat} {v:Value} {r:List α} {w:World} (h:RowIs V e size N v r w):∃ a n c,v=.slice a n c:=by
 obtain ⟨a,c,h,-⟩:=h.open;exact ⟨a,_,c,h⟩
set_option maxRecDepth 100000 in
set_option maxHeartbeats 8000000 in
theorem Size_callsR (d:Flat) (v:Value) (w:World) (h:FlatV w v d) (hwf:d.wf) (hb:mNodes d ≤ 1048576) (hl:d.signals.length ≤ 1048576) (hlp:d.procs.length ≤ 1048576) (hlc:d.checks.length ≤ 1048576) :
  Calls Tryz.prog 97 #[v] w (SizeDPost w (sizeD d)):=by
 have HF:=Lib.hid h
 have HBO:=Lib.hid (fun W (hx:Ext w W)=>bound_callsR d v W (h.ext hx) hb hl)
 have HSHD:=Lib.hid (fun W (hx:Ext w W)=>shaped_callsR d v W (h.ext hx) hwf hl)
 have HWF:=Lib.hid hwf
 have HNB:=Lib.hid hb
 have HSZD:=Lib.hid (show sizeD d=_ from by unfold sizeD;rfl)
 obtain ⟨sv,pv,cv,rfl,hS,hP,hC⟩:=h
 have HSV:=Lib.hid hS
 obtain ⟨xs,bs,os,caps,e1,-,-,-,-⟩:=hS.open
 obtain ⟨ap,bp,op,capp,e2,hp1,hp2,hp3,hpr⟩:=hP.open
 obtain ⟨ac,bc,oc,capc,e3,hq1,hq2,hq3,hqr⟩:=hC.open
 subst e1;subst e2;subst e3
 have HPR:=Lib.hid hpr
 have HP3:=Lib.hid hp3
 have HQR:=Lib.hid hqr
 have HQ3:=Lib.hid hq3
 have HLP:=Lib.hid hlp
 have HLC:=Lib.hid hlc
 clear hS hP hC hpr hp3 hqr hq3 hwf hb hl hlp hlc
 have hx:=(ext_alloc w (.cells [.slice xs d.signals.length caps,.slice ap d.procs.length capp,.slice ac d.checks.length capc].toArray 26)).alloc (.cells zero3.toArray 26)
 have hb1:=(Blk.new w [.slice xs d.signals.length caps,.slice ap d.procs.length capp,.slice ac d.checks.length capc].toArray 26).alloc (.cells zero3.toArray 26)
 have hb2:=Blk.new (w.alloc (.cells [.slice xs d.signals.length caps,.slice ap d.procs.length capp,.slice ac d.checks.length capc].toArray 26)) zero3.toArray 26
 simp only [World.size_alloc] at hb2
 go_enter Tryz.func97,Tryz.ntmps97
 go_upto_region 1 with fail
 generalize (w.alloc _).alloc _=w0 at *
 have hlt0:w.heap.size + 1 < w0.heap.size:=hb2.lt
 have hx4:=ext_alloc w0 (.cells zero3.toArray 26)
 have hb4:=Blk.new w0 zero3.toArray 26
 have hs4:w0.heap.size < (w0.alloc (.cells zero3.toArray 26)).heap.size:=by simp
 go_upto_region 2 with (first | ((with_reducible show Jw (Op.store 26 _ _));refine wpList_store_new rfl 26 _ _ rfl rfl (by first | rfl | simp) rfl agg_Flat (rfl) rfl (by rfl) ?_))
 generalize w0.alloc _=w1 at *
 have K1:=Lib.hid (hb1.ext hx4)
 have K2:=Lib.hid (hb2.ext hx4)
 have K4:=Lib.hid hb4
 have HX1:=Lib.hid (hx.trans hx4)
 clear hx hb1 hb2 hx4 hb4
 obtain ⟨f1,hf1⟩ : ∃ f,fitsM d=f:=⟨_,rfl⟩
 obtain ⟨f2,hf2⟩ : ∃ f,shapedM d=f:=⟨_,rfl⟩
 obtain ⟨f3,hf3⟩ : ∃ f,(d.signals.any fun s=>!holds s.w s.init)=f:=⟨_,rfl⟩
 rw [hf1] at HBO
 rw [hf2] at HSHD
 have HF1:=Lib.hid hf1
 have HF2:=Lib.hid hf2
 have HF3:=Lib.hid hf3
 clear hf1 hf2 hf3
 cases f1
 ·have HE:=Lib.hid (show sizeD d=.error 2 by rw [HSZD.out,if_pos HF1.out])
  go_wp2_with (first | ((with_reducible show Jw (Op.load 26 _));refine wpList_load_has rfl 26 _ rfl rfl (K1.out.has) agg_Flat rfl ?_) | (go_at_call 150;refine (HBO.out _ HX1.out).mono ?_;rintro r w2 ⟨rfl,hx2⟩;have KK:=K4.out.ext hx2;refine Hid.out ?_))
  refine Lib.hid ?_
  go_wp2_with (first | ((with_reducible show Jw (Op.load 26 _));refine wpList_load_has rfl 26 _ rfl rfl (KK.has) agg_Flat rfl ?_) | ((with_reducible show Jw (Op.store 26 _ _));have hk2:=K2.out.ext hx2;refine wpList_store_blk rfl 26 _ _ rfl hk2 rfl (cs:=zero3) rfl agg_Flat rfl rfl rfl ?_;intro w9 hb9 hg9) | ((with_reducible show bodyPost _ _ _ _ _ _);refine Hid.out ?_))
  refine Lib.hid ?_
  refine post_ret_blk2 rfl rfl rfl hb9.has agg_Flat rfl rfl (.inl ⟨2,HE.out,by decide,rfl,(HX1.out.trans hx2).grown hg9 (by omega)⟩)
 cases f2
 ·have HE:=Lib.hid (show sizeD d=.error 1 by rw [HSZD.out,if_neg (by rw [HF1.out];decide),if_pos HF2.out])
  go_upto_region 4 with (first | ((with_reducible show Jw (Op.load 26 _));refine wpList_load_has rfl 26 _ rfl rfl (K1.out.has) agg_Flat rfl ?_) | (go_at_call 150;refine (HBO.out _ HX1.out).mono ?_;rintro r w2 ⟨rfl,hx2⟩))
  have KK1:=Lib.hid (K1.out.ext hx2)
  go_upto_region 5 with (first | ((with_reducible show Jw (Op.load 26 _));refine wpList_load_has rfl 26 _ rfl rfl (KK1.out.has) agg_Flat rfl ?_) | (go_at_call 151;refine (HSHD.out _ (HX1.out.trans hx2)).mono ?_;rintro r w3 ⟨rfl,hx3⟩))
  have KK:=K4.out.ext (hx2.trans hx3)
  go_wp2_with (first | ((with_reducible show Jw (Op.load 26 _));refine wpList_load_has rfl 26 _ rfl rfl (KK.has) agg_Flat rfl ?_) | ((with_reducible show Jw (Op.store 26 _ _));have hk2:=K2.out.ext (hx2.trans hx3);refine wpList_store_blk rfl 26 _ _ rfl hk2 rfl (cs:=zero3) rfl agg_Flat rfl rfl rfl ?_;intro w9 hb9 hg9) | ((with_reducible show bodyPost _ _ _ _ _ _);refine Hid.out ?_))
  refine Lib.hid ?_
  refine post_ret_blk2 rfl rfl rfl hb9.has agg_Flat rfl rfl (.inl ⟨1,HE.out,by decide,rfl,(HX1.out.trans (hx2.trans hx3)).grown hg9 (by omega)⟩)
 have hsig:sigsOk [[]] d.signals=true:=by
  have:=HF2.out
  rw [shapedM_iff] at this
  simp only [Bool.and_eq_true] at this
  exact this.2
 have hw64:=sigs_w _ _ hsig
 have hw1:∀ x ∈ d.signals,0 ≤ x.w:=by
  intro x hx
  obtain ⟨k,hk,rfl⟩:=List.getElem_of_mem hx
  have:=((sigsOk_iff d.signals [[]]).1 hsig k hk).2.1
  unfold sigNum at this
  simp only [Bool.and_eq_true,decide_eq_true_eq] at this
  omega
 have HFI:=Lib.hid (fun W (hx:Ext w W)=>fills_callsR d.signals HWF.out.signals hw1 _ W (HSV.out.ext hx))
 rw [HF3.out] at HFI
 have HW64:=Lib.hid hw64
 clear hsig hw64 hw1
 go_upto_region 4 with (first | ((with_reducible show Jw (Op.load 26 _));refine wpList_load_has rfl 26 _ rfl rfl (K1.out.has) agg_Flat rfl ?_) | (go_at_call 150;refine (HBO.out _ HX1.out).mono ?_;rintro r w2 ⟨rfl,hx2⟩))
 have K12:=Lib.hid (K1.out.ext hx2)
 go_upto_region 6 with (first | ((with_reducible show Jw (Op.load 26 _));refine wpList_load_has rfl 26 _ rfl rfl (K12.out.has) agg_Flat rfl ?_) | (go_at_call 151;refine (HSHD.out _ (HX1.out.trans hx2)).mono ?_;rintro r w3 ⟨rfl,hx3⟩))
 have K13:=Lib.hid (K12.out.ext hx3)
 have HX3:=Lib.hid (HX1.out.trans (hx2.trans hx3))
 have K23:=Lib.hid (K2.out.ext (hx2.trans hx3))
 have K43:=Lib.hid (K4.out.ext (hx2.trans hx3))
 have hs3:=(hx2.trans hx3).size
 have y0:=K13.out.has 0 _ rfl
 rw [Nat.add_zero] at y0
 clear hx2 hx3 K12 HBO HSHD K1 K2 K4 HX1
 cases f3
 rotate_left
 ·have HE:=Lib.hid (show sizeD d=.error 92 by rw [HSZD.out,if_neg (by rw [HF1.out];decide),if_neg (by rw [HF2.out];decide),if_pos HF3.out])
  go_upto_region 7 with (first | (go_at_call 152;refine (HFI.out _ HX3.out).mono ?_;rintro r w4 ⟨rfl,hx4⟩))
  have KK:=K43.out.ext hx4
  go_wp2_with (first | ((with_reducible show Jw (Op.load 26 _));refine wpList_load_has rfl 26 _ rfl rfl (KK.has) agg_Flat rfl ?_) | ((with_reducible show Jw (Op.store 26 _ _));have hk2:=K23.out.ext hx4;refine wpList_store_blk rfl 26 _ _ rfl hk2 rfl (cs:=zero3) rfl agg_Flat rfl rfl rfl ?_;intro w9 hb9 hg9) | ((with_reducible show bodyPost _ _ _ _ _ _);refine Hid.out ?_))
  refine Lib.hid ?_
  refine post_ret_blk2 rfl rfl rfl hb9.has agg_Flat rfl rfl (.inl ⟨92,HE.out,by decide,rfl,(HX3.out.trans hx4).grown hg9 (by omega)⟩)
 go_upto_region 8 with (first | (go_at_call 152;refine (HFI.out _ HX3.out).mono ?_;rintro r w4 ⟨rfl,hx4⟩))
 have K14:=Lib.hid (K13.out.ext hx4)
 have K24:=Lib.hid (K23.out.ext hx4)
 have K44:=Lib.hid (K43.out.ext hx4)
 have HX4:=Lib.hid (HX3.out.trans hx4)
 have hs4':=hx4.size
 have y1:=K14.out.has 0 _ rfl
 rw [Nat.add_zero] at y1
 clear hx4 y0 HFI HX3 K13 K23 K43
 have hxA:=ext_alloc w4 (.cells [.slice xs d.signals.length caps,.slice Option.none 0 0,.slice Option.none 0 0].toArray 26)
 have hbA:=Blk.new w4 [.slice xs d.signals.length caps,.slice Option.none 0 0,.slice Option.none 0 0].toArray 26
 have hsA:w4.heap.size < (w4.alloc (.cells [.slice xs d.signals.length caps,.slice Option.none 0 0,.slice Option.none 0 0].toArray 26)).heap.size:=by simp
 go_upto_region 9 with (first | ((with_reducible show Jw (Op.store 26 _ _));refine wpList_store_new rfl 26 _ _ rfl rfl (by first | rfl | simp) rfl agg_Flat (rfl) rfl (by rfl) ?_))
 obtain ⟨B5,hB5⟩ : ∃ B,w4.heap.size=B:=⟨_,rfl⟩
 rw [hB5] at hbA ⊢
 have hB51:w0.heap.size < B5:=by omega
 have hB52:B5 < (w4.alloc (.cells [.slice xs d.signals.length caps,.slice Option.none 0 0,.slice Option.none 0 0].toArray 26)).heap.size:=by omega
 generalize w4.alloc _=wA at *
 have KA1:=Lib.hid (K14.out.ext hxA)
 have KA2:=Lib.hid (K24.out.ext hxA)
 have KA4:=Lib.hid (K44.out.ext hxA)
 have KA5:=Lib.hid hbA
 have HXA:=Lib.hid (HX4.out.trans hxA)
 clear hxA hbA y1 K14 K24 K44 HX4
 have HSD:=Lib.hid (show sizeD d=(if (szCs (szPs d.signals 0 d.procs).2 d.checks).2 ≠ 0 then .error (szCs (szPs d.signals 0 d.procs).2 d.checks).2 else .ok ⟨d.signals,(szPs d.signals 0 d.procs).1,(szCs (szPs d.signals 0 d.procs).2 d.checks).1⟩) by
  rw [HSZD.out,if_neg (by rw [HF1.out];decide),if_neg (by rw [HF2.out];decide),if_neg (by rw [HF3.out];decide)])
 have hsh2:=HF2.out
 rw [shapedM_iff] at hsh2
 simp only [Bool.and_eq_true] at hsh2
 have HSHP:=Lib.hid (List.all_eq_true.1 hsh2.1.1)
 have HSHC:=Lib.hid (List.all_eq_true.1 hsh2.1.2)
 have HFRA:=Lib.hid (Fr.refl (fun b=>b=B5 ∨ wA.heap.size ≤ b) wA)
 clear hsh2 HSZD HF1 HF2 HF3
 go_wp2_with fail
 go_loopw [6,7,8] (fun i _ _ wr=>∃ (k:Nat) (vv:Value),k ≤ d.procs.length∧i=.int .i64 k∧(szPs d.signals 0 (d.procs.take k)).2=0∧RowIs VProc 39 2 wA.heap.size vv (szPs d.signals 0 (d.procs.take k)).1 wr∧Blk wr B5 [.slice xs d.signals.length caps,vv,.slice Option.none 0 0].toArray 26∧Fr (fun b=>b=B5 ∨ wA.heap.size ≤ b) wA wr) (fun i _ _ _=>d.procs.length - (intOf i).toNat)
 case atStart=>exact ⟨0,_,Nat.zero_le _,rfl,rfl,RowIs.nil,KA5.out,HFRA.out⟩
 case round =>
  obtain ⟨k,vv,hk,rfl,hz,hrow,hb5,hfr⟩:=hrel
  have HFR:=Lib.hid hfr
  have KR1:=Lib.hid (hfr.blk KA1.out (by rintro (h | h) <;> omega))
  have KR2:=Lib.hid (hfr.blk KA2.out (by rintro (h | h) <;> omega))
  have KR4:=Lib.hid (hfr.blk KA4.out (by rintro (h | h) <;> omega))
  have KR5:=Lib.hid hb5
  have HXR:=Lib.hid (hfr.ext HXA.out (by rintro x (h | h) <;> omega))
  have hszr:=hfr.size
  have HZ:=Lib.hid hz
  have HROW:=Lib.hid hrow
  have y1:=KR1.out.has 1 _ rfl
  clear hfr hb5
  by_cases hlt:k < d.procs.length
  ·obtain ⟨sp,q1,q2⟩:=Procs.get (HPR.out.mono fun x _ b o h=>ProcAt.ext' HXR.out h) hlt
   obtain rfl:=HP3.out (by omega)
   have hq1w:∃ s,Has w bp (op + k * 2) (d.procs[k].cells s)∧Has wr bp (op + k * 2) (d.procs[k].cells s)∧s=sp:=by
    obtain ⟨s,g1,-⟩:=Procs.get HPR.out hlt
    have g2:=g1.ext HXR.out
    have e:some s=some sp:=(g2 1 _ rfl).symm.trans (q1 1 _ rfl)
    injection e with e
    exact ⟨s,g1,g2,e⟩
   obtain ⟨sp',hq1w,-,hspe⟩:=hq1w
   rw [hspe] at hq1w
   clear hspe
   have hmem:=List.getElem_mem hlt
   have hsome:=fun ck=>some_callsR d.signals HW64.out ck d.procs[k].l (HSHP.out _ hmem) (HWF.out.procs _ hmem) (by
    have h1:=le_sumBy (fun p:Proc=>sumBy nodesT p.l) d.procs _ hmem
    have h2:=HNB.out
    unfold mNodes at h2
    try simp only at h1
    omega)
   have htk:=szPs_take d.signals 0 d.procs k hlt
   have hstop:=szPs_stop d.signals 0 d.procs (k + 1)
   rw [hz] at htk
   rw [htk] at hstop
   have hlen:(szPs d.signals 0 (d.procs.take k)).1.length=k:=by rw [szPs_length,List.length_take];omega
   obtain ⟨rr,hrr⟩ : ∃ rr,(szPs d.signals 0 (d.procs.take k)).1=rr:=⟨_,rfl⟩
   rw [hrr] at hrow htk hlen
   replace HROW:=Lib.hid hrow
   obtain ⟨p,hp⟩ : ∃ p,d.procs[k]=p:=⟨_,rfl⟩
   rw [hp] at hsome htk hstop q1 q2 hq1w
   obtain ⟨ck,pl⟩:=p
   simp only at hsome htk hstop q2
   obtain ⟨q,hq⟩ : ∃ q,szTL d.signals ck 0 0 pl=q:=⟨_,rfl⟩
   rw [hq] at htk hstop
   have HC:=Lib.hid (fun W (hx:Ext wr W)=>(by have h:=hsome ck (.slice xs d.signals.length caps) sp W (HSV.out.ext (HXR.out.trans hx)) (q2.ext hx);rw [hq] at h;exact h:Calls Tryz.prog 153 #[.slice xs d.signals.length caps,sp,.bool ck] W (SomePost W q)))
   have HTK:=Lib.hid htk
   have HSTOP:=Lib.hid hstop
   have HLN:=Lib.hid hlen
   have HQ1:=Lib.hid q1
   have HQ1w:=Lib.hid hq1w
   clear hq1w hz hrow htk hstop hlen hrr hp hq hsome q1 q2 hmem
   go_upto_region 12 with fail
   clear y1
   refine wp_region_held_drew (S:=fun W=>Ext wr W) (by kernel_rfl) (Below.drew (Below.refl _ _)) (fun hHeld=>?_)
   try simp only [J]
   (refine Jt 0 (_) rfl (yif_load1 rfl (by intro W hW;clear hW;go_simp;rfl)) hHeld ?_;try simp only [J])
   (refine Jt 1 (.slice xs d.signals.length caps) rfl (yif_load1 rfl (by intro W hW;have y7:=(KR1.out.ext hW).has 0 _ rfl;rw [Nat.add_zero] at y7;clear hW;go_simp)) hHeld ?_;try simp only [J])
   (refine Jt 2 (_) rfl (yif_load1 rfl (by intro W hW;clear hW;go_simp;rfl)) hHeld ?_;try simp only [J])
   (refine Jt 3 (.slice (some ⟨bp,op,Option.none⟩) d.procs.length capp) rfl (yif_load1 rfl (by intro W hW;have y7:=(KR1.out.ext hW).has 1 _ rfl;clear hW;go_simp)) hHeld ?_;try simp only [J])
   (refine Jt 4 (_) rfl (yif_load1 rfl fun _ _=>rfl) hHeld ?_;try simp only [J])
   (refine Jt 5 (.pointer (some ⟨bp,op + k * 2,Option.none⟩)) rfl (yif_load1 rfl (by intro W hW;clear hW;go_simp;try (intro h;omega))) hHeld ?_;try simp only [J])
   (refine Jt 6 (_) rfl (yif_load1 rfl (by intro W hW;clear hW;go_simp;rfl)) hHeld ?_;try simp only [J])
   (refine Jt 7 (sp) rfl (yif_load1 rfl (by intro W hW;have y0:W.cell? ⟨bp,op + k * 2 + 1,none⟩=some sp:=(HQ1.out.ext hW) 1 _ rfl;clear hW;go_simp)) hHeld ?_;try simp only [J])
   (refine Jt 8 (_) rfl (yif_load1 rfl (by intro W hW;clear hW;go_simp;rfl)) hHeld ?_;try simp only [J])
   (refine Jt 9 (.slice (some ⟨bp,op,Option.none⟩) d.procs.length capp) rfl (yif_load1 rfl (by intro W hW;have y7:=(KR1.out.ext hW).has 1 _ rfl;clear hW;go_simp)) hHeld ?_;try simp only [J])
   (refine Jt 10 (_) rfl (yif_load1 rfl fun _ _=>rfl) hHeld ?_;try simp only [J])
   (refine Jt 11 (.pointer (some ⟨bp,op + k * 2,Option.none⟩)) rfl (yif_load1 rfl (by intro W hW;clear hW;go_simp;try (intro h;omega))) hHeld ?_;try simp only [J])
   (refine Jt 12 (_) rfl (yif_load1 rfl (by intro W hW;clear hW;go_simp;rfl)) hHeld ?_;try simp only [J])
   (refine Jt 13 (.bool ck) rfl (yif_load1 rfl (by intro W hW;have y0:W.cell? ⟨bp,op + k * 2,none⟩=some (.bool ck):=(HQ1.out.ext hW) 0 _ rfl;clear hW;go_simp)) hHeld ?_;try simp only [J])
   refine wpAnyH_ready (rs:=[14]) (by kernel_rfl) (by simp) ?_
   refine AllReadyH.cons rfl (fun K hK=>?_) AllReadyH.nil
   go_simp
   refine (HC.out _ hHeld).mono ?_
   intro r w3 hp3
   obtain ⟨m,g,rfl,hg,hx3,hrow3,hnil⟩:=hp3
   replace hg:=Lib.hid hg
   refine hK.out _ _ (hHeld.trans hx3) (fun hHeld=>?_)
   clear hK K
   try simp only [J]
   (refine Jt 15 (_) rfl (yif_load1 rfl fun _ _=>rfl) hHeld ?_;try simp only [J])
   (refine Jt 16 (m) rfl (yif_load1 rfl (by intro W hW;clear hW;go_simp)) hHeld ?_;try simp only [J])
   (refine Jt 17 (.int .i64 g) rfl (yif_load1 rfl (by intro W hW;clear hW;go_simp)) hHeld ?_;try simp only [J])
   (refine Jt 18 (_) rfl (yif_load1 rfl fun _ _=>rfl) hHeld ?_;try simp only [J])
   (refine Jt 19 (_) rfl (yif_load1 rfl fun _ _=>rfl) hHeld ?_;try simp only [J])
   refine wpAnyH_done (by kernel_rfl) ?_ _
   have hs3:=hHeld.size
   by_cases hg0:g=0
   rotate_left
   ·have g1:(g != 0)=true:=by rw [bne_iff_ne];exact hg0
    have HE:=Lib.hid (show sizeD d=.error g by
     have h1:=HSTOP.out (show q.2 ≠ 0 by rw [← hg.out];exact hg0)
     rw [HSD.out,h1]
     have h2:(szCs q.2 d.checks).2=q.2:=szCs_err _ _ (by rw [← hg.out];exact hg0)
     rw [h2,← hg.out,if_pos hg0])
    have HG0:=Lib.hid hg0
    have KK:=KR4.out.ext hHeld
    clear hrow3 hnil hg hg0
    go_wp2_with (first | ((with_reducible show Jw (Op.load 26 _));refine wpList_load_has rfl 26 _ rfl rfl (KK.has) agg_Flat rfl ?_) | ((with_reducible show Jw (Op.store 26 _ _));have hk2:=KR2.out.ext hHeld;refine wpList_store_blk rfl 26 _ _ rfl hk2 rfl (cs:=zero3) rfl agg_Flat rfl rfl rfl ?_;intro w9 hb9 hg9) | ((with_reducible show bodyPost _ _ _ _ _ _);refine Hid.out ?_))
    refine Lib.hid ?_
    refine post_ret_blk2 rfl rfl rfl hb9.has agg_Flat rfl rfl (.inl ⟨g,HE.out,HG0.out,rfl,(HXR.out.trans hHeld).grown hg9 (by omega)⟩)
   ·have HG:=Lib.hid (hg.out.symm.trans hg0)
    obtain ⟨am,nm,cm,hm⟩:=(hrow3 hg0).slice
    subst hm
    have HROW3:=Lib.hid (hrow3 hg0)
    subst hg0
    have HFV:=Lib.hid (show FV VProc wr.heap.size w3 [.bool ck,.slice am nm cm] ⟨ck,q.1⟩ from fun W hW=>⟨_,rfl,HROW3.out.sl (V:=VT) (At:=TAt) (fun _ _ _ _ _ h hv=>VT.at h hv) hW⟩)
    have KS5:=Lib.hid (KR5.out.ext hHeld)
    have KS1:=Lib.hid (KR1.out.ext hHeld)
    have HQ3':=Lib.hid (HQ1.out.ext hHeld)
    have HROWS:=Lib.hid (HROW.out.since (Since.of_ext hHeld))
    have HFRS:=Lib.hid (HFR.out.trans (Fr.of_ext hHeld))
    have HRLT:=Lib.hid (fun j (hj:vv.ownBlock=some j)=>HROW.out.lt j hj)
    clear hrow3 hnil hg
    go_upto_region 15 with fail
    refine wp_region_held_drew (S:=fun W=>Blk W w.heap.size [.slice xs d.signals.length caps,.slice (some ⟨bp,op,Option.none⟩) d.procs.length capp,.slice ac d.checks.length capc].toArray 26∧Has W bp (op + k * 2) (Proc.cells ⟨ck,pl⟩ sp)) (by kernel_rfl) ⟨KS1.out.drew,HQ3'.out.drew⟩ (fun hHeld=>?_)
    have hsd:w3.drew.heap.size=w3.heap.size:=rfl
    have KSd:=Lib.hid (show Blk w3.drew B5 [.slice xs d.signals.length caps,vv,.slice Option.none 0 0].toArray 26 from KS5.out)
    have HROWd:=Lib.hid (HROWS.out.since (Since.of_ext (Below.drew (Below.refl _ _):Ext w3 w3.drew)))
    have HFRd:=Lib.hid (HFRS.out.trans (Fr.of_ext (Below.drew (Below.refl _ _):Ext w3 w3.drew)))
    have HFVd:=Lib.hid (HFV.out.ext (Below.drew (Below.refl _ _):Ext w3 w3.drew))
    generalize w3.drew=wd at *
    try simp only [J]
    (refine Jt 0 (_) rfl (yif_load1 rfl fun _ _=>rfl) hHeld ?_;try simp only [J])
    (refine Jt 2 (_) rfl (yif_load1 rfl fun _ _=>rfl) hHeld ?_;try simp only [J])
    (refine Jt 3 (.slice (some ⟨bp,op,Option.none⟩) d.procs.length capp) rfl (yif_load1 rfl (by intro W hW;have y7:=hW.1.has 1 _ rfl;rw [Nat.zero_add] at y7;clear hW;go_simp)) hHeld ?_;try simp only [J])
    (refine Jt 4 (_) rfl (yif_load1 rfl fun _ _=>rfl) hHeld ?_;try simp only [J])
    (refine Jt 5 (.pointer (some ⟨bp,op + k * 2,Option.none⟩)) rfl (yif_load1 rfl (by intro W hW;clear hW;go_simp;try (intro h;omega))) hHeld ?_;try simp only [J])
    (refine Jt 6 (.pointer (some ⟨bp,op + k * 2,Option.none⟩)) rfl (yif_load1 rfl (by intro W hW;clear hW;go_simp)) hHeld ?_;try simp only [J])
    (refine Jt 7 (.bool ck) rfl (yif_load1 rfl (by intro W hW;have y7:W.cell? ⟨bp,op + k * 2,Option.none⟩=some (.bool ck):=hW.2 0 _ rfl;clear hW;go_simp)) hHeld ?_;try simp only [J])
    (refine Jt 8 (_) rfl (yif_load1 rfl fun _ _=>rfl) hHeld ?_;try simp only [J])
    (refine Jt 9 (.agg [.bool ck,.slice am nm cm].toArray) rfl (yif_load1 rfl (by intro W hW;clear hW;go_simp)) hHeld ?_;try simp only [J])
    refine wpAnyH_ready (rs:=[1,10]) (by kernel_rfl) (by simp) ?_
    refine AllReadyH.cons rfl (fun K hK=>?_) (AllReadyH.cons rfl (fun K hK=>?_) AllReadyH.nil)
    ·have zd:wd.cell? ⟨B5,1,Option.none⟩=some vv:=by have:=KSd.out.has 1 _ rfl;simpa using this
     go_simp
     refine hK.out _ _ hHeld (fun hHeld=>?_)
     clear hK K zd
     try simp only [J]
     refine wpAnyH_ready (rs:=[10]) (by kernel_rfl) (by simp) ?_
     refine AllReadyH.cons rfl (fun K hK=>?_) AllReadyH.nil
     refine step_bs1 rfl _ _ rfl appProc rfl (cs:=[.bool ck,.slice am nm cm]) rfl rfl (by decide) ?_
     refine hK.out _ _ ⟨hHeld.1.ext (ext_alloc _ _),hHeld.2.ext (ext_alloc _ _)⟩ (fun hHeld=>?_)
     clear hK K
     try simp only [J]
     refine wpAnyH_ready (rs:=[11]) (by kernel_rfl) (by simp) ?_
     refine AllReadyH.cons rfl (fun K hK=>?_) AllReadyH.nil
     have hxe:=ext_alloc wd (.cells [.bool ck,.slice am nm cm].toArray 39)
     have hce:=Has.alloc wd [.bool ck,.slice am nm cm] 39
     have hse:wd.heap.size < (wd.alloc (.cells [.bool ck,.slice am nm cm].toArray 39)).heap.size:=by simp
     have hlen1:rr.length + 1 ≤ 16777216:=by rw [HLN.out];have:=HLP.out;omega
     have hbase1:wA.heap.size ≤ (wd.alloc (.cells [.bool ck,.slice am nm cm].toArray 39)).heap.size:=by omega
     have hrowe:RowIs VProc 39 2 wA.heap.size vv rr (wd.alloc (.cells [.bool ck,.slice am nm cm].toArray 39)):=HROWd.out.since (Since.of_ext hxe)
     have hste:StV VProc wA.heap.size vv.ownBlock (wd.alloc (.cells [.bool ck,.slice am nm cm].toArray 39)) [.bool ck,.slice am nm cm] ⟨ck,q.1⟩:=(HFVd.out.ext hxe).st (N:=wA.heap.size) (by omega) (fun k hk=>by have:=(HRLT.out k hk).2;omega)
     refine step_app1 (V:=VProc) rfl _ _ _ rfl appProc (v:=vv) rfl hrowe (by first | rfl | (rw [← hsd];rfl)) rfl hce rfl hste hlen1 hbase1 ?_
     intro g7 cap7 w7 hrow7 hg7
     have hR:∀ j,vv.ownBlock=some j→wA.heap.size ≤ j:=fun j hj=>(HRLT.out j hj).1
     have hb7:=(KSd.out.ext hxe).grownO hg7 (fun j hj=>by have:=hR j hj;omega)
     have hfr7:=(HFRd.out.trans (Fr.of_ext hxe)).trans (Fr.of_gb hg7 (fun j hj=>.inr (hR j hj)))
     refine hK.out _ _ ⟨(hHeld.1).grownO hg7 (fun j hj=>by have:=hR j hj;omega),HQ1w.out.ext (hfr7.ext HXA.out (by rintro x (h | h) <;> omega))⟩ (fun hHeld=>?_)
     clear hK K
     try simp only [J]
     (refine Jt 12 (_) rfl (yif_load1 rfl fun _ _=>rfl) hHeld ?_;try simp only [J])
     refine wpAnyH_ready (rs:=[13]) (by kernel_rfl) (by simp) ?_
     refine AllReadyH.cons rfl (fun K hK=>?_) AllReadyH.nil
     have x1:w7.cell? ⟨B5,1,Option.none⟩=some vv:=by have:=hb7.has 1 _ rfl;simpa using this
     have x2:=hb7.frozen 1
     go_simp
     have hg8:=gb_set w7 B5 1 (.slice (some ⟨g7,0,Option.none⟩) (rr.length + 1) cap7)
     have hb8:=hb7.set 1 (.slice (some ⟨g7,0,Option.none⟩) (rr.length + 1) cap7)
     have hfr8:=hfr7.trans (Fr.of_gb hg8 (fun j hj=>by cases hj;exact .inl rfl))
     refine hK.out _ _ ⟨hHeld.1.grown hg8 (by omega),HQ1w.out.ext (hfr8.ext HXA.out (by rintro x (h | h) <;> omega))⟩ (fun hHeld=>?_)
     clear hK K
     try simp only [J]
     refine wpAnyH_done (by kernel_rfl) ?_ _
     have HR':=Lib.hid (hrow7.since (Since.of_grown hg8 (by omega)))
     have HB':=Lib.hid hb8
     have HF':=Lib.hid hfr8
     clear x1 x2 hrow7 hb7 hfr7 hb8 hfr8 hg8 hg7 hce hxe hrowe hste hHeld
     go_wp2_with fail
     go_roundw
     case rel=>exact ⟨k + 1,_,by omega,by go_num,by rw [HTK.out];exact HG.out,by rw [HTK.out];exact HR'.out,HB'.out,HF'.out⟩
     case measure=>simp [intOf];omega
    ·refine step_bs1 rfl _ _ rfl appProc rfl (cs:=[.bool ck,.slice am nm cm]) rfl rfl (by decide) ?_
     refine hK.out _ _ ⟨hHeld.1.ext (ext_alloc _ _),hHeld.2.ext (ext_alloc _ _)⟩ (fun hHeld=>?_)
     clear hK K
     try simp only [J]
     have zd:(wd.alloc (.cells [.bool ck,.slice am nm cm].toArray 39)).cell? ⟨B5,1,Option.none⟩=some vv:=by have:=(KSd.out.ext (ext_alloc wd (.cells [.bool ck,.slice am nm cm].toArray 39))).has 1 _ rfl;simpa using this
     refine wpAnyH_ready (rs:=[1]) (by kernel_rfl) (by simp) ?_
     refine AllReadyH.cons rfl (fun K hK=>?_) AllReadyH.nil
     go_simp
     refine hK.out _ _ hHeld (fun hHeld=>?_)
     clear hK K zd
     try simp only [J]
     refine wpAnyH_ready (rs:=[11]) (by kernel_rfl) (by simp) ?_
     refine AllReadyH.cons rfl (fun K hK=>?_) AllReadyH.nil
     have hxe:=ext_alloc wd (.cells [.bool ck,.slice am nm cm].toArray 39)
     have hce:=Has.alloc wd [.bool ck,.slice am nm cm] 39
     have hse:wd.heap.size < (wd.alloc (.cells [.bool ck,.slice am nm cm].toArray 39)).heap.size:=by simp
     have hlen1:rr.length + 1 ≤ 16777216:=by rw [HLN.out];have:=HLP.out;omega
     have hbase1:wA.heap.size ≤ (wd.alloc (.cells [.bool ck,.slice am nm cm].toArray 39)).heap.size:=by omega
     have hrowe:RowIs VProc 39 2 wA.heap.size vv rr (wd.alloc (.cells [.bool ck,.slice am nm cm].toArray 39)):=HROWd.out.since (Since.of_ext hxe)
     have hste:StV VProc wA.heap.size vv.ownBlock (wd.alloc (.cells [.bool ck,.slice am nm cm].toArray 39)) [.bool ck,.slice am nm cm] ⟨ck,q.1⟩:=(HFVd.out.ext hxe).st (N:=wA.heap.size) (by omega) (fun k hk=>by have:=(HRLT.out k hk).2;omega)
     refine step_app1 (V:=VProc) rfl _ _ _ rfl appProc (v:=vv) rfl hrowe (by first | rfl | (rw [← hsd];rfl)) rfl hce rfl hste hlen1 hbase1 ?_
     intro g7 cap7 w7 hrow7 hg7
     have hR:∀ j,vv.ownBlock=some j→wA.heap.size ≤ j:=fun j hj=>(HRLT.out j hj).1
     have hb7:=(KSd.out.ext hxe).grownO hg7 (fun j hj=>by have:=hR j hj;omega)
     have hfr7:=(HFRd.out.trans (Fr.of_ext hxe)).trans (Fr.of_gb hg7 (fun j hj=>.inr (hR j hj)))
     refine hK.out _ _ ⟨(hHeld.1).grownO hg7 (fun j hj=>by have:=hR j hj;omega),HQ1w.out.ext (hfr7.ext HXA.out (by rintro x (h | h) <;> omega))⟩ (fun hHeld=>?_)
     clear hK K
     try simp only [J]
     (refine Jt 12 (_) rfl (yif_load1 rfl fun _ _=>rfl) hHeld ?_;try simp only [J])
     refine wpAnyH_ready (rs:=[13]) (by kernel_rfl) (by simp) ?_
     refine AllReadyH.cons rfl (fun K hK=>?_) AllReadyH.nil
     have x1:w7.cell? ⟨B5,1,Option.none⟩=some vv:=by have:=hb7.has 1 _ rfl;simpa using this
     have x2:=hb7.frozen 1
     go_simp
     have hg8:=gb_set w7 B5 1 (.slice (some ⟨g7,0,Option.none⟩) (rr.length + 1) cap7)
     have hb8:=hb7.set 1 (.slice (some ⟨g7,0,Option.none⟩) (rr.length + 1) cap7)
     have hfr8:=hfr7.trans (Fr.of_gb hg8 (fun j hj=>by cases hj;exact .inl rfl))
     refine hK.out _ _ ⟨hHeld.1.grown hg8 (by omega),HQ1w.out.ext (hfr8.ext HXA.out (by rintro x (h | h) <;> omega))⟩ (fun hHeld=>?_)
     clear hK K
     try simp only [J]
     refine wpAnyH_done (by kernel_rfl) ?_ _
     have HR':=Lib.hid (hrow7.since (Since.of_grown hg8 (by omega)))
     have HB':=Lib.hid hb8
     have HF':=Lib.hid hfr8
     clear x1 x2 hrow7 hb7 hfr7 hb8 hfr8 hg8 hg7 hce hxe hrowe hste hHeld
     go_wp2_with fail
     go_roundw
     case rel=>exact ⟨k + 1,_,by omega,by go_num,by rw [HTK.out];exact HG.out,by rw [HTK.out];exact HR'.out,HB'.out,HF'.out⟩
     case measure=>simp [intOf];omega
  ·obtain rfl:k=d.procs.length:=by omega
   rw [List.take_length] at hrow hz
   have HZP:=Lib.hid hz
   have HRP:=Lib.hid hrow
   obtain ⟨wo,rfl⟩ : ∃ x,x=wr:=⟨_,rfl⟩
   have HSD2:=Lib.hid (show sizeD d=(if (szCs 0 d.checks).2 ≠ 0 then .error (szCs 0 d.checks).2 else .ok ⟨d.signals,(szPs d.signals 0 d.procs).1,(szCs 0 d.checks).1⟩) by
    have:=HSD.out;rwa [hz] at this)
   have HFRW:=Lib.hid (Fr.refl (fun b=>b=B5 ∨ wo.heap.size ≤ b) wo)
   have HXW:=HXR
   clear hz hrow HSD HROW HZ
   go_wp2_with fail
   clear y1
   go_loopw [9,10,11] (fun i _ _ wr=>∃ (k:Nat) (vc:Value),k ≤ d.checks.length∧i=.int .i64 k∧(szCs 0 (d.checks.take k)).2=0∧RowIs VCheck 135 9 wo.heap.size vc (szCs 0 (d.checks.take k)).1 wr∧Blk wr B5 [.slice xs d.signals.length caps,vv,vc].toArray 26∧Fr (fun b=>b=B5 ∨ wo.heap.size ≤ b) wo wr) (fun i _ _ _=>d.checks.length - (intOf i).toNat)
   case atStart=>exact ⟨0,_,Nat.zero_le _,rfl,rfl,RowIs.nil,KR5.out,HFRW.out⟩
   case round =>
    obtain ⟨k,vc,hk,rfl,hz,hrow,hb5,hfr⟩:=hrel
    have HFR2:=Lib.hid hfr
    have KQ1:=Lib.hid (hfr.blk KR1.out (by rintro (h | h) <;> omega))
    have KQ2:=Lib.hid (hfr.blk KR2.out (by rintro (h | h) <;> omega))
    have KQ4:=Lib.hid (hfr.blk KR4.out (by rintro (h | h) <;> omega))
    have KQ5:=Lib.hid hb5
    have HXQ:=Lib.hid (hfr.ext HXW.out (by rintro x (h | h) <;> omega))
    have hszq:=hfr.size
    have HZ:=Lib.hid hz
    have y2:=KQ1.out.has 2 _ rfl
    clear hfr hb5
    by_cases hlt:k < d.checks.length
    ·obtain ⟨sp,q1,q2⟩:=Chks.get (HQR.out.mono fun x _ b o h=>ChkAt.ext' HXQ.out h) hlt
     obtain rfl:=HQ3.out (by omega)
     obtain ⟨sp',hq1w,-⟩:=Chks.get HQR.out hlt
     have hspe:sp'=sp:=by
      have e:some sp'=some sp:=((hq1w.ext HXQ.out) 8 _ rfl).symm.trans (q1 8 _ rfl)
      injection e
     rw [hspe] at hq1w
     have hmem:=List.getElem_mem hlt
     have hbit:=bit_callsR HW64.out d.checks[k].e (HSHC.out _ hmem) (HWF.out.checks _ hmem) (by
      have h1:=le_sumBy (fun c:Chk=>nodes c.e) d.checks _ hmem
      have h2:=HNB.out
      unfold mNodes at h2
      try simp only at h1
      omega)
     have htk:=szCs_take 0 d.checks k hlt
     have hstop:=szCs_stop 0 d.checks (k + 1)
     rw [hz] at htk
     rw [htk] at hstop
     have hlen:(szCs 0 (d.checks.take k)).1.length=k:=by rw [szCs_length,List.length_take];omega
     obtain ⟨rr,hrr⟩ : ∃ rr,(szCs 0 (d.checks.take k)).1=rr:=⟨_,rfl⟩
     rw [hrr] at hrow htk hlen
     obtain ⟨c,hc⟩ : ∃ c,d.checks[k]=c:=⟨_,rfl⟩
     rw [hc] at hbit htk hstop q1 q2 hq1w
     obtain ⟨nm,ce⟩:=c
     simp only at hbit htk hstop q2
     have HC:=Lib.hid (hbit _ wr ⟨sp,rfl,q2⟩)
     have HTK:=Lib.hid htk
     have HSTOP:=Lib.hid hstop
     have HLN:=Lib.hid hlen
     have HQ1:=Lib.hid q1
     have HQ1w:=Lib.hid hq1w
     have HQT:=Lib.hid q1.tail
     have HROW:=Lib.hid hrow
     have HSZE:=Lib.hid (show szE 0 ce (-1)=_ from by unfold szE;rw [if_neg (by decide)])
     clear hz hrow htk hstop hlen hrr hc hbit q1 q2 hq1w hspe hmem
     go_wp2_with (first | ((with_reducible show Jw (Op.load 44 _));refine wpList_load_has rfl 44 _ rfl rfl (HQT.out) agg_E rfl ?_) | (go_at_call 154;refine HC.out.mono ?_;intro r w3 hp3;obtain ⟨cs2,g,rfl,h8,hone,hx3,ho⟩:=hp3.open;clear hp3;refine Hid.out ?_))
     refine Lib.hid ?_
     have hx4:=ext_alloc w3 (.cells cs2.toArray 44)
     have hbb:=Has.alloc w3 cs2 44
     have hs34:w3.heap.size < (w3.alloc (.cells cs2.toArray 44)).heap.size:=by simp
     have hs3':=hx3.size
     go_upto_region 20 with (first | ((with_reducible show Jw (Op.store 44 _ _));refine wpList_store_new rfl 44 _ _ rfl rfl (by first | rfl | simp) rfl agg_E (h8) rfl (hone) ?_))
     obtain ⟨Bx,hBx⟩ : ∃ B,w3.heap.size=B:=⟨_,rfl⟩
     rw [hBx] at hbb ⊢
     generalize w3.alloc _=w4 at *
     have HX34:=Lib.hid (hx3.trans hx4)
     have hbbx:=Lib.hid hbb
     have HX4b:=Lib.hid hx4
     clear hx4 hbb y2
     rcases ho with ⟨rfl,y,hy,hfe⟩ | ⟨hg,hy⟩
     ·have HSY:=Lib.hid (show szE 0 ce (-1)=(y,0) by rw [HSZE.out,hy])
      obtain ⟨s3,hcs,hs3e⟩:=hfe.ve
      subst hcs
      have HONEC:=Lib.hid (show (Chk.cells ⟨nm,y⟩ s3).all (·.oneCell')=true by simp [hs3e.one,one_int,one_string])
      have HFV:=Lib.hid (show FV VCheck wr.heap.size w4 (Chk.cells ⟨nm,y⟩ s3) ⟨nm,y⟩ from fun W hW=>by
       obtain ⟨s9,h9,h10⟩:=(hfe.ext HX4b.out) W hW
       have:s3=s9:=by simpa [E.cells] using h9
       exact ⟨s3,rfl,by rw [this];exact h10⟩)
      have KS5:=Lib.hid (KQ5.out.ext HX34.out)
      have KS1:=Lib.hid (KQ1.out.ext HX34.out)
      have HQ3':=Lib.hid (HQ1.out.ext HX34.out)
      have HROWS:=Lib.hid (HROW.out.since (Since.of_ext HX34.out))
      have HFRS:=Lib.hid (HFR2.out.trans (Fr.of_ext HX34.out))
      have HRLT:=Lib.hid (fun j (hj:vc.ownBlock=some j)=>HROW.out.lt j hj)
      clear hfe hy hs3e
      go_upto_region 22 with fail
      refine wp_region_held_drew (S:=fun W=>Blk W w.heap.size [.slice xs d.signals.length caps,.slice ap d.procs.length capp,.slice (some ⟨bc,oc,Option.none⟩) d.checks.length capc].toArray 26∧Has W bc (oc + k * 9) (Chk.cells ⟨nm,ce⟩ sp)∧Has W Bx 0 (y.cells s3)) (by kernel_rfl) ⟨KS1.out.drew,HQ3'.out.drew,hbbx.out.drew⟩ (fun hHeld=>?_)
      have hsd:w4.drew.heap.size=w4.heap.size:=rfl
      have KSd:=Lib.hid (show Blk w4.drew B5 [.slice xs d.signals.length caps,vv,vc].toArray 26 from KS5.out)
      have HROWd:=Lib.hid (HROWS.out.since (Since.of_ext (Below.drew (Below.refl _ _):Ext w4 w4.drew)))
      have HFRd:=Lib.hid (HFRS.out.trans (Fr.of_ext (Below.drew (Below.refl _ _):Ext w4 w4.drew)))
      have HFVd:=Lib.hid (HFV.out.ext (Below.drew (Below.refl _ _):Ext w4 w4.drew))
      generalize w4.drew=wd at *
      try simp only [J]
      (refine Jt 0 (_) rfl (yif_load1 rfl fun _ _=>rfl) hHeld ?_;try simp only [J])
      (refine Jt 2 (_) rfl (yif_load1 rfl fun _ _=>rfl) hHeld ?_;try simp only [J])
      (refine Jt 3 (.slice (some ⟨bc,oc,Option.none⟩) d.checks.length capc) rfl (yif_load1 rfl (by intro W hW;have y7:=hW.1.has 2 _ rfl;rw [Nat.zero_add] at y7;clear hW;go_simp)) hHeld ?_;try simp only [J])
      (refine Jt 4 (_) rfl (yif_load1 rfl fun _ _=>rfl) hHeld ?_;try simp only [J])
      (refine Jt 5 (.pointer (some ⟨bc,oc + k * 9,Option.none⟩)) rfl (yif_load1 rfl (by intro W hW;clear hW;go_simp;try (intro h;omega))) hHeld ?_;try simp only [J])
      (refine Jt 6 (.pointer (some ⟨bc,oc + k * 9,Option.none⟩)) rfl (yif_load1 rfl (by intro W hW;clear hW;go_simp)) hHeld ?_;try simp only [J])
      (refine Jt 7 (.string nm) rfl (yif_load1 rfl (by intro W hW;have y7:W.cell? ⟨bc,oc + k * 9,Option.none⟩=some (.string nm):=hW.2.1 0 _ rfl;clear hW;go_simp)) hHeld ?_;try simp only [J])
      (refine Jt 8 (.agg (y.cells s3).toArray) rfl (yif_load rfl 44 _ rfl rfl (fun _ h=>h.2.2) agg_E rfl) hHeld ?_;try simp only [J])
      (refine Jt 9 (.agg (Chk.cells ⟨nm,y⟩ s3).toArray) rfl (yif_load1 rfl (by intro W hW;clear hW;go_simp)) hHeld ?_;try simp only [J])
      refine wpAnyH_ready (rs:=[1,10]) (by kernel_rfl) (by simp) ?_
      refine AllReadyH.cons rfl (fun K hK=>?_) (AllReadyH.cons rfl (fun K hK=>?_) AllReadyH.nil)
      ·have zd:wd.cell? ⟨B5,2,Option.none⟩=some vc:=by have:=KSd.out.has 2 _ rfl;simpa using this
       go_simp
       refine hK.out _ _ hHeld (fun hHeld=>?_)
       clear hK K zd
       try simp only [J]
       refine wpAnyH_ready (rs:=[10]) (by kernel_rfl) (by simp) ?_
       refine AllReadyH.cons rfl (fun K hK=>?_) AllReadyH.nil
       refine step_bs1 rfl _ _ rfl appCheck rfl (cs:=(Chk.cells ⟨nm,y⟩ s3)) rfl rfl (by decide) ?_
       refine hK.out _ _ ⟨hHeld.1.ext (ext_alloc _ _),hHeld.2.1.ext (ext_alloc _ _),hHeld.2.2.ext (ext_alloc _ _)⟩ (fun hHeld=>?_)
       clear hK K
       try simp only [J]
       refine wpAnyH_ready (rs:=[11]) (by kernel_rfl) (by simp) ?_
       refine AllReadyH.cons rfl (fun K hK=>?_) AllReadyH.nil
       have hxe:=ext_alloc wd (.cells (Chk.cells ⟨nm,y⟩ s3).toArray 135)
       have hce:=Has.alloc wd (Chk.cells ⟨nm,y⟩ s3) 135
       have hse:wd.heap.size < (wd.alloc (.cells (Chk.cells ⟨nm,y⟩ s3).toArray 135)).heap.size:=by simp
       have hlen1:rr.length + 1 ≤ 16777216:=by rw [HLN.out];have:=HLC.out;omega
       have hbase1:wo.heap.size ≤ (wd.alloc (.cells (Chk.cells ⟨nm,y⟩ s3).toArray 135)).heap.size:=by omega
       have hrowe:RowIs VCheck 135 9 wo.heap.size vc rr (wd.alloc (.cells (Chk.cells ⟨nm,y⟩ s3).toArray 135)):=HROWd.out.since (Since.of_ext hxe)
       have hste:StV VCheck wo.heap.size vc.ownBlock (wd.alloc (.cells (Chk.cells ⟨nm,y⟩ s3).toArray 135)) (Chk.cells ⟨nm,y⟩ s3) ⟨nm,y⟩:=(HFVd.out.ext hxe).st (N:=wo.heap.size) (by omega) (fun k hk=>by have:=(HRLT.out k hk).2;omega)
       refine step_app1 (V:=VCheck) rfl _ _ _ rfl appCheck (v:=vc) rfl hrowe (by first | rfl | (rw [← hsd];rfl)) rfl hce HONEC.out hste hlen1 hbase1 ?_
       intro g7 cap7 w7 hrow7 hg7
       have hR:∀ j,vc.ownBlock=some j→wo.heap.size ≤ j∧j < wr.heap.size:=fun j hj=>HRLT.out j hj
       have hb7:=(KSd.out.ext hxe).grownO hg7 (fun j hj=>by have:=hR j hj;omega)
       have hfr7:=(HFRd.out.trans (Fr.of_ext hxe)).trans (Fr.of_gb hg7 (fun j hj=>.inr (hR j hj).1))
       have hbx7:=(hHeld.2.2).grownR hg7 (by intro e;have:=hR _ e;omega)
       refine hK.out _ _ ⟨(hHeld.1).grownO hg7 (fun j hj=>by have:=hR j hj;omega),HQ1w.out.ext (hfr7.ext HXW.out (by rintro x (h | h) <;> omega)),hbx7⟩ (fun hHeld=>?_)
       clear hK K
       try simp only [J]
       (refine Jt 12 (_) rfl (yif_load1 rfl fun _ _=>rfl) hHeld ?_;try simp only [J])
       refine wpAnyH_ready (rs:=[13]) (by kernel_rfl) (by simp) ?_
       refine AllReadyH.cons rfl (fun K hK=>?_) AllReadyH.nil
       have x1:w7.cell? ⟨B5,2,Option.none⟩=some vc:=by have:=hb7.has 2 _ rfl;simpa using this
       have x2:=hb7.frozen 2
       go_simp
       have hg8:=gb_set w7 B5 2 (.slice (some ⟨g7,0,Option.none⟩) (rr.length + 1) cap7)
       have hb8:=hb7.set 2 (.slice (some ⟨g7,0,Option.none⟩) (rr.length + 1) cap7)
       have hfr8:=hfr7.trans (Fr.of_gb hg8 (fun j hj=>by cases hj;exact .inl rfl))
       refine hK.out _ _ ⟨hHeld.1.grown hg8 (by omega),HQ1w.out.ext (hfr8.ext HXW.out (by rintro x (h | h) <;> omega)),hHeld.2.2.grown hg8 (by omega)⟩ (fun hHeld=>?_)
       clear hK K
       try simp only [J]
       refine wpAnyH_done (by kernel_rfl) ?_ _
       have HR':=Lib.hid (hrow7.since (Since.of_grown hg8 (by omega)))
       have HB':=Lib.hid hb8
       have HF':=Lib.hid hfr8
       clear x1 x2 hrow7 hb7 hfr7 hb8 hfr8 hg8 hg7 hce hxe hrowe hste hHeld hbx7
       go_wp2_with fail
       go_roundw
       case rel=>exact ⟨k + 1,_,by omega,by go_num,by rw [HTK.out,HSY.out],by rw [HTK.out,HSY.out];exact HR'.out,HB'.out,HF'.out⟩
       case measure=>simp [intOf];omega
      ·refine step_bs1 rfl _ _ rfl appCheck rfl (cs:=(Chk.cells ⟨nm,y⟩ s3)) rfl rfl (by decide) ?_
       refine hK.out _ _ ⟨hHeld.1.ext (ext_alloc _ _),hHeld.2.1.ext (ext_alloc _ _),hHeld.2.2.ext (ext_alloc _ _)⟩ (fun hHeld=>?_)
       clear hK K
       try simp only [J]
       have zd:(wd.alloc (.cells (Chk.cells ⟨nm,y⟩ s3).toArray 135)).cell? ⟨B5,2,Option.none⟩=some vc:=by have:=(KSd.out.ext (ext_alloc wd (.cells (Chk.cells ⟨nm,y⟩ s3).toArray 135))).has 2 _ rfl;simpa using this
       refine wpAnyH_ready (rs:=[1]) (by kernel_rfl) (by simp) ?_
       refine AllReadyH.cons rfl (fun K hK=>?_) AllReadyH.nil
       go_simp
       refine hK.out _ _ hHeld (fun hHeld=>?_)
       clear hK K zd
       try simp only [J]
       refine wpAnyH_ready (rs:=[11]) (by kernel_rfl) (by simp) ?_
       refine AllReadyH.cons rfl (fun K hK=>?_) AllReadyH.nil
       have hxe:=ext_alloc wd (.cells (Chk.cells ⟨nm,y⟩ s3).toArray 135)
       have hce:=Has.alloc wd (Chk.cells ⟨nm,y⟩ s3) 135
       have hse:wd.heap.size < (wd.alloc (.cells (Chk.cells ⟨nm,y⟩ s3).toArray 135)).heap.size:=by simp
       have hlen1:rr.length + 1 ≤ 16777216:=by rw [HLN.out];have:=HLC.out;omega
       have hbase1:wo.heap.size ≤ (wd.alloc (.cells (Chk.cells ⟨nm,y⟩ s3).toArray 135)).heap.size:=by omega
       have hrowe:RowIs VCheck 135 9 wo.heap.size vc rr (wd.alloc (.cells (Chk.cells ⟨nm,y⟩ s3).toArray 135)):=HROWd.out.since (Since.of_ext hxe)
       have hste:StV VCheck wo.heap.size vc.ownBlock (wd.alloc (.cells (Chk.cells ⟨nm,y⟩ s3).toArray 135)) (Chk.cells ⟨nm,y⟩ s3) ⟨nm,y⟩:=(HFVd.out.ext hxe).st (N:=wo.heap.size) (by omega) (fun k hk=>by have:=(HRLT.out k hk).2;omega)
       refine step_app1 (V:=VCheck) rfl _ _ _ rfl appCheck (v:=vc) rfl hrowe (by first | rfl | (rw [← hsd];rfl)) rfl hce HONEC.out hste hlen1 hbase1 ?_
       intro g7 cap7 w7 hrow7 hg7
       have hR:∀ j,vc.ownBlock=some j→wo.heap.size ≤ j∧j < wr.heap.size:=fun j hj=>HRLT.out j hj
       have hb7:=(KSd.out.ext hxe).grownO hg7 (fun j hj=>by have:=hR j hj;omega)
       have hfr7:=(HFRd.out.trans (Fr.of_ext hxe)).trans (Fr.of_gb hg7 (fun j hj=>.inr (hR j hj).1))
       have hbx7:=(hHeld.2.2).grownR hg7 (by intro e;have:=hR _ e;omega)
       refine hK.out _ _ ⟨(hHeld.1).grownO hg7 (fun j hj=>by have:=hR j hj;omega),HQ1w.out.ext (hfr7.ext HXW.out (by rintro x (h | h) <;> omega)),hbx7⟩ (fun hHeld=>?_)
       clear hK K
       try simp only [J]
       (refine Jt 12 (_) rfl (yif_load1 rfl fun _ _=>rfl) hHeld ?_;try simp only [J])
       refine wpAnyH_ready (rs:=[13]) (by kernel_rfl) (by simp) ?_
       refine AllReadyH.cons rfl (fun K hK=>?_) AllReadyH.nil
       have x1:w7.cell? ⟨B5,2,Option.none⟩=some vc:=by have:=hb7.has 2 _ rfl;simpa using this
       have x2:=hb7.frozen 2
       go_simp
       have hg8:=gb_set w7 B5 2 (.slice (some ⟨g7,0,Option.none⟩) (rr.length + 1) cap7)
       have hb8:=hb7.set 2 (.slice (some ⟨g7,0,Option.none⟩) (rr.length + 1) cap7)
       have hfr8:=hfr7.trans (Fr.of_gb hg8 (fun j hj=>by cases hj;exact .inl rfl))
       refine hK.out _ _ ⟨hHeld.1.grown hg8 (by omega),HQ1w.out.ext (hfr8.ext HXW.out (by rintro x (h | h) <;> omega)),hHeld.2.2.grown hg8 (by omega)⟩ (fun hHeld=>?_)
       clear hK K
       try simp only [J]
       refine wpAnyH_done (by kernel_rfl) ?_ _
       have HR':=Lib.hid (hrow7.since (Since.of_grown hg8 (by omega)))
       have HB':=Lib.hid hb8
       have HF':=Lib.hid hfr8
       clear x1 x2 hrow7 hb7 hfr7 hb8 hfr8 hg8 hg7 hce hxe hrowe hste hHeld hbx7
       go_wp2_with fail
       go_roundw
       case rel=>exact ⟨k + 1,_,by omega,by go_num,by rw [HTK.out,HSY.out],by rw [HTK.out,HSY.out];exact HR'.out,HB'.out,HF'.out⟩
       case measure=>simp [intOf];omega
     ·have g1:(g != 0)=true:=by rw [bne_iff_ne];omega
      have HE:=Lib.hid (show sizeD d=.error g by
       have hsy:szE 0 ce (-1)=(zE,g):=by rw [HSZE.out,hy]
       have h1:=HSTOP.out (by rw [hsy];show g ≠ 0;omega)
       rw [hsy] at h1
       have h2:(szCs 0 d.checks).2=g:=h1
       rw [HSD2.out,h2,if_pos (by omega)])
      have KK:=Blk.ext KQ4.out HX34.out
      clear hy
      go_wp2_with (first | ((with_reducible show Jw (Op.load 26 _));refine wpList_load_has rfl 26 _ rfl rfl (KK.has) agg_Flat rfl ?_) | ((with_reducible show Jw (Op.store 26 _ _));have hk2:=Blk.ext KQ2.out HX34.out;refine wpList_store_blk rfl 26 _ _ rfl hk2 rfl (cs:=zero3) rfl agg_Flat rfl rfl rfl ?_;intro w9 hb9 hg9) | ((with_reducible show bodyPost _ _ _ _ _ _);refine Hid.out ?_))
      refine Lib.hid ?_
      refine post_ret_blk2 rfl rfl rfl hb9.has agg_Flat rfl rfl (.inl ⟨g,HE.out,by omega,rfl,(HXQ.out.trans HX34.out).grown hg9 (by omega)⟩)
    ·obtain rfl:k=d.checks.length:=by omega
     rw [List.take_length] at hrow hz
     have HE:=Lib.hid (show sizeD d=.ok ⟨d.signals,(szPs d.signals 0 d.procs).1,(szCs 0 d.checks).1⟩ by rw [HSD2.out,hz,if_neg (by simp)])
     have HROW:=Lib.hid hrow
     have HONE9:=Lib.hid (show [.slice xs d.signals.length caps,vv,vc].all (·.oneCell')=true by simp [HRP.out.one,hrow.one];rfl)
     have HSW:=Lib.hid (HFR2.out.since (N:=wA.heap.size) (by rintro x h1 h2 (h | h) <;> omega))
     clear hz hrow
     go_wp2_with (first | ((with_reducible show Jw (Op.load 26 _));refine wpList_load_has rfl 26 _ rfl rfl (KQ5.out.has) agg_Flat rfl ?_) | ((with_reducible show Jw (Op.store 26 _ _));have hk2:=KQ2.out;refine wpList_store_blk rfl 26 _ _ rfl hk2 rfl (cs:=[.slice xs d.signals.length caps,vv,vc]) rfl agg_Flat rfl rfl HONE9.out ?_;intro w9 hb9 hg9) | ((with_reducible show bodyPost _ _ _ _ _ _);refine Hid.out ?_))
     refine Lib.hid ?_
     have hxf:=HXQ.out.grown hg9 (by omega)
     refine post_ret_blk2 rfl rfl rfl hb9.has agg_Flat rfl rfl (.inr ⟨_,_,_,_,HE.out,rfl,⟨_,_,_,rfl,HSV.out.ext hxf,?_,?_⟩,hxf⟩)
     ·exact HRP.out.sl (V:=VProc) (At:=ProcAt) (fun _ _ _ _ _ h hv=>VProc.at h hv) (HSW.out.trans (Since.of_grown hg9 (by omega)))
     ·exact HROW.out.sl (V:=VCheck) (At:=ChkAt) (fun _ _ _ _ _ h hv=>VCheck.at h hv) (Since.of_grown hg9 (by omega))
end Go.Proofs.YtemabheegnngdaaGreat
