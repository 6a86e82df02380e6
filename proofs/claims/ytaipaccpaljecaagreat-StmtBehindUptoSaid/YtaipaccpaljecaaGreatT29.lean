/- Laws and walks that a claim of this seat leans on: StmtBehind. -/
import Derived.Test.YtaipaccpaljecaaGreatT25
import Derived.Test.YtaipaccpaljecaaGreatTFew11
import Derived.Test.YtaipaccpaljecaaGreatT27
import Derived.Test.YtaipaccpaljecaaGreatT22
import Derived.Test.YtaipaccpaljecaaGreatT00
set_option linter.all false
namespace Go.Proofs.YtaipaccpaljecaaGreat
open Go.RowKit
theorem ok_sub {d:Flat} (hok:d.ok) (ck:Bool) (l:List T) (hw:∀ t ∈ l,t.wf) (hn:sumBy nodesT l ≤ 1048576):Flat.ok ⟨d.signals,[⟨ck,l⟩],[]⟩ where
 wf:={ signals:=hok.wf.signals,procs:=fun p hp t ht=>by obtain rfl:=List.mem_singleton.1 hp;exact hw t ht,checks:=fun c hc=>by cases hc }
 nodes:=by rw [mNodes_eq];simp only [sumBy];omega
 signals:=hok.signals
 procs:=by show 1 ≤ 1048576;decide
 checks:=Nat.zero_le _
theorem few11_small {d:Flat} (h:few11 d=true):mNodes d ≤ 2000:=by
 unfold few11 small at h
 simp only [Bool.and_eq_true,decide_eq_true_eq] at h
 exact h.1.1.1.1.1
theorem Ts.take {w:World} {a:Option Addr} {n c:Nat} {l:List T} (h:Ts w (.slice a n c) l) (k:Nat) (hk:k ≤ l.length):Ts w (.slice a k c) (l.take k):=by
 obtain ⟨b,o,⟨a',c',e,h1,h2,h3⟩,hr⟩:=h
 injection e with e1 e2 e3
 subst e1 e2 e3
 refine ⟨b,o,⟨a,c,by rw [List.length_take,Nat.min_eq_left hk],by rw [List.length_take];omega,h2,fun h=>h3 (by rw [List.length_take] at h;omega)⟩,?_⟩
 clear h1 h2 h3
 induction l generalizing k o with
 | nil=>simpa using hr
 | cons x l ih =>
  cases k with
  | zero=>trivial
  | succ k=>exact ⟨hr.1,ih k (by simpa using hk) (o + 6) hr.2⟩
theorem rows_drop {α : Type} {size:Nat} {R : α→Nat→Nat→Prop} (l:List α):∀ (b o k:Nat),k ≤ l.length→Rows size R l b o→Rows size R (l.drop k) b (o + k * size):=by
 induction l with
 | nil=>intro b o k _ _;rw [List.drop_nil];trivial
 | cons x l ih =>
  intro b o k hk hr
  cases k with
  | zero=>simpa using hr
  | succ k =>
   rw [List.drop_succ_cons,Nat.add_mul,Nat.one_mul,Nat.add_comm (k * size),← Nat.add_assoc]
   exact ih b (o + size) k (by simpa using hk) hr.2
theorem Ts.drop {w:World} {al:Option Addr} {n c:Nat} {l:List T} (h:Ts w (.slice al n c) l) (k:Nat) (hk:k ≤ l.length) {ad:Option Addr} (had:(if c=k then al else al.map fun x=>x.add (k * 6))=ad):Ts w (.slice ad (l.length - k) (c - k)) (l.drop k):=by
 obtain ⟨b,o,⟨a',c',e,h1,h2,h3⟩,hr⟩:=h
 injection e with e1 e2 e3
 subst e1 e2 e3
 refine ⟨b,o + k * 6,⟨ad,c - k,by rw [List.length_drop],by rw [List.length_drop];omega,by omega,fun hp=>?_⟩,rows_drop l _ _ k hk hr⟩
 rw [List.length_drop] at hp
 rw [if_neg (by omega),h3 (by omega)] at had
 rw [← had]
 simp [Addr.add]
set_option maxRecDepth 100000 in
set_option maxHeartbeats 4000000 in
theorem StmtBehind_calls (d:Flat) (v:Value) (vs:List Nat) (s:Value) (p:Int) (q:Int) (w:World) (hF:FlatV w v d) (hok:d.ok) (hs:Us w s vs) (h64s:us64 vs) (hls:vs.length + 1 ≤ 1048576) (hp:i64r p) (hq:i64r q) :
  Calls Tryz.prog 10 #[v,s,.int .i64 p,.int .i64 q] w fun r w'=>r=.returned (.bool true)∧Ext w w':=by
 have HF:=Lib.hid (fun W (h:Ext w W)=>hF.ext h)
 have HFW:=Lib.hid (fun W (h:Ext w W)=>Few_calls d v W (hF.ext h) hok.nodes hok.signals hok.procs)
 have HOK:=Lib.hid hok
 have hlpr:=hok.procs
 have HUS:=Lib.hid (fun W (h:Ext w W)=>hs.ext h)
 have H64:=Lib.hid h64s
 have HIP:=Lib.hid hp
 have HIQ:=Lib.hid hq
 obtain ⟨sv,pv,cv,rfl,hS,hP,hC⟩:=hF
 obtain ⟨ap,bp,op,cp,rfl,hp1,hp2,hap,hpr⟩:=hP.open
 have HAP:=Lib.hid hap
 have HPR:=Lib.hid hpr
 clear hap hpr
 obtain ⟨av,bv,ov,capv,rfl,-,-,-,-⟩:=hs.open
 have x1:=ext_alloc w (.cells [sv,.slice ap d.procs.length cp,cv].toArray 26)
 have hD:=Blk.new w [sv,.slice ap d.procs.length cp,cv].toArray 26
 clear hS hP hC hok hs h64s
 unfold i64r at hp
 unfold i64r at hq
 go_enter Tryz.func10,Tryz.ntmps10
 go_upto_region 1 with fail
 generalize w.alloc _=w0 at *
 have HX0:=Lib.hid x1
 have HD0:=Lib.hid hD
 clear x1 hD
 go_upto_region 4 with (go_at_call 21;refine (live11_calls _).mono ?_;rintro r w1 ⟨rfl,hx1⟩)
 have HD:=Lib.hid (HD0.out.ext hx1)
 have HX:=Lib.hid (HX0.out.trans hx1)
 clear hx1 HD0 HX0
 have d1:=HD.out.has
 obtain ⟨fw,hfw⟩ : ∃ fw,few11 d=fw:=⟨_,rfl⟩
 have HSML:=Lib.hid (fun h:fw=true=>few11_small (by rw [hfw];exact h))
 rw [hfw] at HFW
 clear hfw
 cases fw
 ·go_wp2_with (first | ((with_reducible show Jw (Op.load 26 _));refine wpList_load_has rfl 26 _ rfl rfl (d1) agg_Flat rfl ?_) | (go_at_call 22;refine (HFW.out w1 HX.out).mono ?_;rintro r w2 ⟨rfl,hx2⟩))
  go_ret
  exact ⟨rfl,HX.out.trans hx2⟩
 by_cases hl:(100:Int) < (vs.length:Int)
 ·have bl:decide ((100:Int) < (vs.length:Int))=true:=decide_eq_true hl
  clear hl
  go_wp2_with (first | ((with_reducible show Jw (Op.load 26 _));refine wpList_load_has rfl 26 _ rfl rfl (d1) agg_Flat rfl ?_) | (go_at_call 22;refine (HFW.out w1 HX.out).mono ?_;rintro r w2 ⟨rfl,hx2⟩))
  go_ret
  exact ⟨rfl,HX.out.trans hx2⟩
 have bl:decide ((100:Int) < (vs.length:Int))=false:=decide_eq_false hl
 by_cases h0:p < 0
 ·have b0:decide (p < 0)=true:=decide_eq_true h0
  clear h0
  go_wp2_with (first | ((with_reducible show Jw (Op.load 26 _));refine wpList_load_has rfl 26 _ rfl rfl (d1) agg_Flat rfl ?_) | (go_at_call 22;refine (HFW.out w1 HX.out).mono ?_;rintro r w2 ⟨rfl,hx2⟩))
  go_ret
  exact ⟨rfl,HX.out.trans hx2⟩
 have b0:decide (p < 0)=false:=decide_eq_false h0
 by_cases h1:(d.procs.length:Int) ≤ p
 ·have b1:decide ((d.procs.length:Int) ≤ p)=true:=decide_eq_true h1
  clear h1
  go_wp2_with (first | ((with_reducible show Jw (Op.load 26 _));refine wpList_load_has rfl 26 _ rfl rfl (d1) agg_Flat rfl ?_) | (go_at_call 22;refine (HFW.out w1 HX.out).mono ?_;rintro r w2 ⟨rfl,hx2⟩;have e1:=(HD.out.ext hx2).has 1 _ rfl))
  go_ret
  exact ⟨rfl,HX.out.trans hx2⟩
 have b1:decide ((d.procs.length:Int) ≤ p)=false:=decide_eq_false h1
 obtain ⟨k,rfl⟩:=Int.eq_ofNat_of_zero_le (show 0 ≤ p by omega)
 have hk:k < d.procs.length:=by omega
 obtain rfl:=HAP.out (by omega)
 have hat:=HPR.out.get (List.getElem?_eq_getElem hk)
 have hpl:procL d (k:Int)=d.procs[k].l:=procL_get (by rw [Int.toNat_natCast];exact hk)
 have hcd:clkD d (k:Int)=d.procs[k].clocked:=by unfold clkD;rw [Int.toNat_natCast,List.getElem?_eq_getElem hk];rfl
 have hwf:∀ t ∈ d.procs[k].l,t.wf:=fun t ht=>HOK.out.wf.procs _ (List.getElem_mem hk) t ht
 have hnd:=nodes_proc d k hk
 generalize d.procs[k]=pk at *
 obtain ⟨lv,hph,hpt⟩:=hat
 have HPH0:=Lib.hid (fun W (h:Ext w W)=>show W.cell? ⟨bp,op + k * 2,none⟩=some (.bool pk.clocked) from by have:=(hph.ext h) 0 _ rfl;rwa [Nat.add_zero] at this)
 have HPH1:=Lib.hid (fun W (h:Ext w W)=>(hph.ext h) 1 _ rfl)
 have HPT:=Lib.hid (fun W (h:Ext w W)=>hpt.ext h)
 obtain ⟨al,bl',ol,cl,rfl,hc1,hc2,hal,-⟩:=hpt.open
 have HAL:=Lib.hid hal
 generalize pk.l=l at *
 have HPL:=Lib.hid hpl
 have HCD:=Lib.hid hcd
 have HWF:=Lib.hid hwf
 have HND:=Lib.hid (Nat.le_trans hnd (HSML.out rfl))
 clear h0 h1 hph hpt hal hpl hcd hwf hnd hl
 generalize pk.clocked=ck at *
 cases ck
 case true =>
  go_wp2_with (first | ((with_reducible show Jw (Op.load 26 _));refine wpList_load_has rfl 26 _ rfl rfl (d1) agg_Flat rfl ?_) | (go_at_call 22;refine (HFW.out w1 HX.out).mono ?_;rintro r w2 ⟨rfl,hx2⟩;have e1:=(HD.out.ext hx2).has 1 _ rfl;have p0:=HPH0.out w2 (HX.out.trans hx2)))
  go_ret
  exact ⟨rfl,HX.out.trans hx2⟩
 go_upto_region 6 with (first | ((with_reducible show Jw (Op.load 26 _));refine wpList_load_has rfl 26 _ rfl rfl (d1) agg_Flat rfl ?_) | (go_at_call 22;refine (HFW.out w1 HX.out).mono ?_;rintro r w2 ⟨rfl,hx2⟩;have e1:=(HD.out.ext hx2).has 1 _ rfl;have p0:=HPH0.out w2 (HX.out.trans hx2)))
 have HX2:=Lib.hid (HX.out.trans hx2)
 have HD2:=Lib.hid (HD.out.ext hx2)
 have p1:=HPH1.out w2 HX2.out
 clear hx2 HX HD HFW p0 d1
 go_upto_region 7 with fail
 have d2:=HD2.out.has
 clear e1 p1
 have HRUN:=Lib.hid (Run_calls d _ vs _ (k:Int) w2 (HF.out w2 HX2.out) HOK.out (HUS.out w2 HX2.out) H64.out (by unfold i64r;omega))
 have HIQQ:=HIQ.out
 unfold i64r at HIQQ
 by_cases hmay:valsOk d vs=true∧0 ≤ (k:Int)∧(k:Int) < d.procs.length
 case neg =>
  rw [runM_no hmay] at HRUN
  clear hmay
  go_upto_region 8 with (first | ((with_reducible show Jw (Op.load 26 _));refine wpList_load_has rfl 26 _ rfl rfl (d2) agg_Flat rfl ?_) | (go_at_call 23;refine HRUN.out.mono ?_;rintro r w3 ⟨u,rfl,hr3,hx3⟩))
  have HX3:=Lib.hid (HX2.out.trans hx3)
  clear hr3 hx3 d2
  refine wp_region_held_drew (S:=fun W=>Ext w3 W) (by kernel_rfl) (Below.drew (Below.refl _ _)) (fun hHeld=>?_)
  try simp only [J]
  (refine Jt 0 (.int .i64 1) rfl (yif_load1 rfl fun _ _=>rfl) hHeld ?_;try simp only [J])
  (refine Jt 1 (.bool true) rfl (yif_load1 rfl (by intro W hW;clear hW;go_simp)) hHeld ?_;try simp only [J])
  (refine Jt 2 (.bool true) rfl (yif_load1 rfl fun _ _=>rfl) hHeld ?_;try simp only [J])
  (refine Jt 3 (undef) rfl (Or.inr ⟨rfl,rfl⟩) hHeld ?_;try simp only [J])
  (refine Jt 4 (undef) rfl (Or.inr ⟨rfl,rfl⟩) hHeld ?_;try simp only [J])
  (refine Jt 5 (.bool true) rfl (yif_load1 rfl (by intro W hW;clear hW;go_simp)) hHeld ?_;try simp only [J])
  (refine Jt 6 (.bool true) rfl (yif_load1 rfl fun _ _=>rfl) hHeld ?_;try simp only [J])
  (refine Jt 7 (undef) rfl (Or.inr ⟨rfl,rfl⟩) hHeld ?_;try simp only [J])
  (refine Jt 8 (undef) rfl (Or.inr ⟨rfl,rfl⟩) hHeld ?_;try simp only [J])
  (refine Jt 9 (undef) rfl (Or.inr ⟨rfl,rfl⟩) hHeld ?_;try simp only [J])
  (refine Jt 10 (undef) rfl (Or.inr ⟨rfl,rfl⟩) hHeld ?_;try simp only [J])
  (refine Jt 11 (.bool true) rfl (yif_load1 rfl (by intro W hW;clear hW;go_simp)) hHeld ?_;try simp only [J])
  (refine Jt 12 (.bool true) rfl (yif_load1 rfl fun _ _=>rfl) hHeld ?_;try simp only [J])
  (refine Jt 13 (undef) rfl (Or.inr ⟨rfl,rfl⟩) hHeld ?_;try simp only [J])
  (refine Jt 14 (undef) rfl (Or.inr ⟨rfl,rfl⟩) hHeld ?_;try simp only [J])
  (refine Jt 15 (undef) rfl (Or.inr ⟨rfl,rfl⟩) hHeld ?_;try simp only [J])
  (refine Jt 16 (undef) rfl (Or.inr ⟨rfl,rfl⟩) hHeld ?_;try simp only [J])
  (refine Jt 17 (undef) rfl (Or.inr ⟨rfl,rfl⟩) hHeld ?_;try simp only [J])
  (refine Jt 18 (undef) rfl (Or.inr ⟨rfl,rfl⟩) hHeld ?_;try simp only [J])
  (refine Jt 19 (undef) rfl (Or.inr ⟨rfl,rfl⟩) hHeld ?_;try simp only [J])
  (refine Jt 20 (.bool true) rfl (yif_load1 rfl (by intro W hW;clear hW;go_simp)) hHeld ?_;try simp only [J])
  refine wpAnyH_done (by kernel_rfl) ?_ _
  have HH:=Lib.hid hHeld
  clear hHeld
  go_wp2_with fail
  go_ret
  exact ⟨rfl,HX3.out.trans HH.out⟩
 obtain ⟨m1,m2,m3⟩:=hmay
 obtain ⟨v1,hc,-⟩:=valsOk_ck m1
 have hlw:∀ x ∈ d.signals,x.w ≤ 64:=fun x hx=>(checkM_w hc x hx).2
 have hvv:=valsOk_val2 m1
 rw [runM_of hc hvv m2 m3] at HRUN
 have HBH:=Lib.hid (fun n hcb=>run_behind HOK.out hc m2 m3 (by rw [HCD.out]) hvv n ⟨5,0,0,0,[],l⟩ rfl HPL.out.symm hcb)
 have HVU:=Lib.hid (fun us (h:Val2 d.signals us)=>val2_us64 hlw h)
 have HVR:=Lib.hid (run_kept HOK.out hc m2 m3 hvv).1
 rw [HPL.out] at HBH
 have HXL:=Lib.hid (show (runL d (k:Int) vs).length ≤ 1099511627776 by have:=HVR.out.1;have:=HOK.out.signals;omega)
 generalize runL d (k:Int) vs=xs at *
 clear m1 v1 hc hvv m2 m3
 go_upto_region 8 with (first | ((with_reducible show Jw (Op.load 26 _));refine wpList_load_has rfl 26 _ rfl rfl (d2) agg_Flat rfl ?_) | (go_at_call 23;refine HRUN.out.mono ?_;rintro r w3 ⟨u,rfl,hr3,hx3⟩))
 obtain ⟨ua,uc,rfl,-⟩:=hr3.open
 have HA3:=Lib.hid hr3.cells
 have HX3:=Lib.hid (HX2.out.trans hx3)
 have HD3:=Lib.hid (HD2.out.ext hx3)
 clear hr3 hx3 d2 HX2 HD2 HRUN
 by_cases hq0:q < 0
 ·have c0:decide (q < 0)=true:=decide_eq_true hq0
  clear hq0
  refine wp_region_held_drew (S:=fun W=>Ext w3 W) (by kernel_rfl) (Below.drew (Below.refl _ _)) (fun hHeld=>?_)
  try simp only [J]
  (refine Jt 0 (.int .i64 0) rfl (yif_load1 rfl fun _ _=>rfl) hHeld ?_;try simp only [J])
  (refine Jt 1 (.bool false) rfl (yif_load1 rfl (by intro W hW;clear hW;go_simp)) hHeld ?_;try simp only [J])
  (refine Jt 2 (.bool false) rfl (yif_load1 rfl fun _ _=>rfl) hHeld ?_;try simp only [J])
  (refine Jt 3 (.int .i64 q) rfl (yif_load1 rfl fun _ _=>rfl) hHeld ?_;try simp only [J])
  (refine Jt 4 (.bool true) rfl (yif_load1 rfl (by intro W hW;clear hW;go_simp)) hHeld ?_;try simp only [J])
  (refine Jt 5 (.bool true) rfl (yif_load1 rfl (by intro W hW;clear hW;go_simp)) hHeld ?_;try simp only [J])
  (refine Jt 6 (.bool true) rfl (yif_load1 rfl fun _ _=>rfl) hHeld ?_;try simp only [J])
  (refine Jt 7 (undef) rfl (Or.inr ⟨rfl,rfl⟩) hHeld ?_;try simp only [J])
  (refine Jt 8 (undef) rfl (Or.inr ⟨rfl,rfl⟩) hHeld ?_;try simp only [J])
  (refine Jt 9 (undef) rfl (Or.inr ⟨rfl,rfl⟩) hHeld ?_;try simp only [J])
  (refine Jt 10 (undef) rfl (Or.inr ⟨rfl,rfl⟩) hHeld ?_;try simp only [J])
  (refine Jt 11 (.bool true) rfl (yif_load1 rfl (by intro W hW;clear hW;go_simp)) hHeld ?_;try simp only [J])
  (refine Jt 12 (.bool true) rfl (yif_load1 rfl fun _ _=>rfl) hHeld ?_;try simp only [J])
  (refine Jt 13 (undef) rfl (Or.inr ⟨rfl,rfl⟩) hHeld ?_;try simp only [J])
  (refine Jt 14 (undef) rfl (Or.inr ⟨rfl,rfl⟩) hHeld ?_;try simp only [J])
  (refine Jt 15 (undef) rfl (Or.inr ⟨rfl,rfl⟩) hHeld ?_;try simp only [J])
  (refine Jt 16 (undef) rfl (Or.inr ⟨rfl,rfl⟩) hHeld ?_;try simp only [J])
  (refine Jt 17 (undef) rfl (Or.inr ⟨rfl,rfl⟩) hHeld ?_;try simp only [J])
  (refine Jt 18 (undef) rfl (Or.inr ⟨rfl,rfl⟩) hHeld ?_;try simp only [J])
  (refine Jt 19 (undef) rfl (Or.inr ⟨rfl,rfl⟩) hHeld ?_;try simp only [J])
  (refine Jt 20 (.bool true) rfl (yif_load1 rfl (by intro W hW;clear hW;go_simp)) hHeld ?_;try simp only [J])
  refine wpAnyH_done (by kernel_rfl) ?_ _
  have HH:=Lib.hid hHeld
  clear hHeld
  go_wp2_with fail
  go_ret
  exact ⟨rfl,HX3.out.trans HH.out⟩
 have c0:decide (q < 0)=false:=decide_eq_false hq0
 by_cases hq1:(l.length:Int) < q
 ·have c1:decide ((l.length:Int) < q)=true:=decide_eq_true hq1
  clear hq1
  refine wp_region_held_drew (S:=fun W=>Ext w3 W) (by kernel_rfl) (Below.drew (Below.refl _ _)) (fun hHeld=>?_)
  try simp only [J]
  (refine Jt 0 (.int .i64 0) rfl (yif_load1 rfl fun _ _=>rfl) hHeld ?_;try simp only [J])
  (refine Jt 1 (.bool false) rfl (yif_load1 rfl (by intro W hW;clear hW;go_simp)) hHeld ?_;try simp only [J])
  (refine Jt 2 (.bool false) rfl (yif_load1 rfl fun _ _=>rfl) hHeld ?_;try simp only [J])
  (refine Jt 3 (.int .i64 q) rfl (yif_load1 rfl fun _ _=>rfl) hHeld ?_;try simp only [J])
  (refine Jt 4 (.bool false) rfl (yif_load1 rfl (by intro W hW;clear hW;go_simp)) hHeld ?_;try simp only [J])
  (refine Jt 5 (.bool false) rfl (yif_load1 rfl (by intro W hW;clear hW;go_simp)) hHeld ?_;try simp only [J])
  (refine Jt 6 (.bool false) rfl (yif_load1 rfl fun _ _=>rfl) hHeld ?_;try simp only [J])
  (refine Jt 7 (.int .i64 q) rfl (yif_load1 rfl fun _ _=>rfl) hHeld ?_;try simp only [J])
  (refine Jt 8 (.slice al l.length cl) rfl (yif_load1 rfl fun _ _=>rfl) hHeld ?_;try simp only [J])
  (refine Jt 9 (.int .i64 (l.length:Int)) rfl (yif_load1 rfl (by intro W hW;clear hW;go_simp)) hHeld ?_;try simp only [J])
  (refine Jt 10 (.bool true) rfl (yif_load1 rfl (by intro W hW;clear hW;go_simp)) hHeld ?_;try simp only [J])
  (refine Jt 11 (.bool true) rfl (yif_load1 rfl (by intro W hW;clear hW;go_simp)) hHeld ?_;try simp only [J])
  (refine Jt 12 (.bool true) rfl (yif_load1 rfl fun _ _=>rfl) hHeld ?_;try simp only [J])
  (refine Jt 13 (undef) rfl (Or.inr ⟨rfl,rfl⟩) hHeld ?_;try simp only [J])
  (refine Jt 14 (undef) rfl (Or.inr ⟨rfl,rfl⟩) hHeld ?_;try simp only [J])
  (refine Jt 15 (undef) rfl (Or.inr ⟨rfl,rfl⟩) hHeld ?_;try simp only [J])
  (refine Jt 16 (undef) rfl (Or.inr ⟨rfl,rfl⟩) hHeld ?_;try simp only [J])
  (refine Jt 17 (undef) rfl (Or.inr ⟨rfl,rfl⟩) hHeld ?_;try simp only [J])
  (refine Jt 18 (undef) rfl (Or.inr ⟨rfl,rfl⟩) hHeld ?_;try simp only [J])
  (refine Jt 19 (undef) rfl (Or.inr ⟨rfl,rfl⟩) hHeld ?_;try simp only [J])
  (refine Jt 20 (.bool true) rfl (yif_load1 rfl (by intro W hW;clear hW;go_simp)) hHeld ?_;try simp only [J])
  refine wpAnyH_done (by kernel_rfl) ?_ _
  have HH:=Lib.hid hHeld
  clear hHeld
  go_wp2_with fail
  go_ret
  exact ⟨rfl,HX3.out.trans HH.out⟩
 have c1:decide ((l.length:Int) < q)=false:=decide_eq_false hq1
 have hnb:sumBy nodesT [(⟨5,0,0,0,[],l⟩ : T)] ≤ 1048576:=by
  have:=HND.out
  show nodesT ⟨5,0,0,0,[],l⟩ + 0 ≤ 1048576
  rw [nodesT_eq]
  simp only [sumBy]
  omega
 have hwb:∀ t ∈ [(⟨5,0,0,0,[],l⟩ : T)],t.wf:=fun t ht=>by
  obtain rfl:=List.mem_singleton.1 ht
  exact (T.wf_iff _).2 ⟨by unfold i64r;simp,by unfold i64r;simp,by unfold i64r;simp,by unfold i64r;simp,(fun x hx=>by cases hx),HWF.out⟩
 have HOB:=Lib.hid (ok_sub HOK.out false [(⟨5,0,0,0,[],l⟩ : T)] hwb hnb)
 obtain ⟨c,hcc⟩ : ∃ c,checkM ⟨d.signals,[⟨false,[(⟨5,0,0,0,[],l⟩ : T)]⟩],[]⟩=c:=⟨_,rfl⟩
 have HCC:=Lib.hid hcc
 have HCB:=Lib.hid (fun W v' (h:FlatV W v' ⟨d.signals,[⟨false,[(⟨5,0,0,0,[],l⟩ : T)]⟩],[]⟩)=>Check_calls _ v' W h HOB.out)
 rw [hcc] at HCB
 clear hcc hnb hwb
 refine wp_region_held_drew (S:=fun W=>Ext w3 W) (by kernel_rfl) (Below.drew (Below.refl _ _)) (fun hHeld=>?_)
 try simp only [J]
 (refine Jt 0 (.int .i64 0) rfl (yif_load1 rfl fun _ _=>rfl) hHeld ?_;try simp only [J])
 (refine Jt 1 (.bool false) rfl (yif_load1 rfl (by intro W hW;clear hW;go_simp)) hHeld ?_;try simp only [J])
 (refine Jt 2 (.bool false) rfl (yif_load1 rfl fun _ _=>rfl) hHeld ?_;try simp only [J])
 (refine Jt 3 (.int .i64 q) rfl (yif_load1 rfl fun _ _=>rfl) hHeld ?_;try simp only [J])
 (refine Jt 4 (.bool false) rfl (yif_load1 rfl (by intro W hW;clear hW;go_simp)) hHeld ?_;try simp only [J])
 (refine Jt 5 (.bool false) rfl (yif_load1 rfl (by intro W hW;clear hW;go_simp)) hHeld ?_;try simp only [J])
 (refine Jt 6 (.bool false) rfl (yif_load1 rfl fun _ _=>rfl) hHeld ?_;try simp only [J])
 (refine Jt 7 (.int .i64 q) rfl (yif_load1 rfl fun _ _=>rfl) hHeld ?_;try simp only [J])
 (refine Jt 8 (.slice al l.length cl) rfl (yif_load1 rfl fun _ _=>rfl) hHeld ?_;try simp only [J])
 (refine Jt 9 (.int .i64 (l.length:Int)) rfl (yif_load1 rfl (by intro W hW;clear hW;go_simp)) hHeld ?_;try simp only [J])
 (refine Jt 10 (.bool false) rfl (yif_load1 rfl (by intro W hW;clear hW;go_simp)) hHeld ?_;try simp only [J])
 (refine Jt 11 (.bool false) rfl (yif_load1 rfl (by intro W hW;clear hW;go_simp)) hHeld ?_;try simp only [J])
 (refine Jt 12 (.bool false) rfl (yif_load1 rfl fun _ _=>rfl) hHeld ?_;try simp only [J])
 (refine Jt 13 (.agg [sv,.slice (some ⟨bp,op,none⟩) d.procs.length cp,cv].toArray) rfl (yif_load rfl 26 _ rfl rfl (fun W hW=>(HD3.out.ext hW).has) agg_Flat rfl) hHeld ?_;try simp only [J])
 (refine Jt 14 (.slice al l.length cl) rfl (yif_load1 rfl fun _ _=>rfl) hHeld ?_;try simp only [J])
 (refine wpAnyH_ready (rs:=[15]) (by kernel_rfl) (by simp) ?_;refine AllReadyH.cons rfl (fun K hK=>?_) AllReadyH.nil)
 rw [if_pos (by kernel_rfl)]
 go_simp
 refine (block11_calls al l.length cl _).mono ?_
 rintro r w4 ⟨rfl,hx4⟩
 refine hK.out _ _ (hHeld.trans hx4) (fun hHeld=>?_)
 clear hK K hx4
 try simp only [J]
 (refine wpAnyH_ready (rs:=[16]) (by kernel_rfl) (by simp) ?_;refine AllReadyH.cons rfl (fun K hK=>?_) AllReadyH.nil)
 refine step_bsN rfl _ 1 _ rfl appT (vs:=[.agg ([.int .i64 5,.int .i64 0,.int .i64 0,.int .i64 0,.slice none 0 0,.slice al l.length cl]:List Value).toArray]) rfl rfl (css:=[[.int .i64 5,.int .i64 0,.int .i64 0,.int .i64 0,.slice none 0 0,.slice al l.length cl]]) rfl (by intro cs h;simp at h;subst h;rfl) (by decide) (by decide) ?_
 have x5:=ext_alloc w4 (.cells ([[.int .i64 5,.int .i64 0,.int .i64 0,.int .i64 0,.slice none 0 0,.slice al l.length cl]]:List (List Value)).flatten.toArray 60)
 have hb5:=Blk.new w4 ([[.int .i64 5,.int .i64 0,.int .i64 0,.int .i64 0,.slice none 0 0,.slice al l.length cl]]:List (List Value)).flatten.toArray 60
 have hh5:=hHeld.trans x5
 obtain ⟨BB,hBB⟩ : ∃ B,w4.heap.size=B:=⟨_,rfl⟩
 rw [hBB] at hb5 ⊢
 refine hK.out _ _ hh5 (fun hHeld=>?_)
 clear hK K hBB x5 hh5
 generalize w4.alloc _=w5 at *
 try simp only [J]
 have hts:Ts w5 (.slice (some ⟨BB,0,none⟩) 1 1) [(⟨5,0,0,0,[],l⟩ : T)]:=⟨BB,0,⟨_,1,rfl,Nat.le_refl _,by decide,fun _=>rfl⟩,TAt_iff.2 ⟨_,_,hb5.has,Sl.nil _ _,HPT.out w5 (HX3.out.trans hHeld)⟩,trivial⟩
 have HWT:=Lib.hid (with_calls d _ _ false _ w5 (HF.out w5 (HX3.out.trans hHeld)) hts)
 clear hts hb5
 (refine wpAnyH_ready (rs:=[17]) (by kernel_rfl) (by simp) ?_;refine AllReadyH.cons rfl (fun K hK=>?_) AllReadyH.nil)
 rw [if_pos (by kernel_rfl)]
 go_simp
 refine HWT.out.mono ?_
 rintro r w6 ⟨v6,rfl,hf6,hx6⟩
 refine hK.out _ _ (hHeld.trans hx6) (fun hHeld=>?_)
 clear hK K hx6 HWT
 have HC6:=Lib.hid (HCB.out w6 v6 hf6)
 clear hf6
 try simp only [J]
 (refine wpAnyH_ready (rs:=[18]) (by kernel_rfl) (by simp) ?_;refine AllReadyH.cons rfl (fun K hK=>?_) AllReadyH.nil)
 rw [if_pos (by kernel_rfl)]
 go_simp
 refine HC6.out.mono ?_
 rintro r w7 ⟨rfl,hx7⟩
 refine hK.out _ _ (hHeld.trans hx7) (fun hHeld=>?_)
 clear hK K hx7 HC6
 try simp only [J]
 obtain ⟨cb,hcb⟩ : ∃ cb,(c != 0)=cb:=⟨_,rfl⟩
 have HCBB:=Lib.hid hcb
 clear hcb
 (refine Jt 19 (.bool cb) rfl (yif_load1 rfl (by intro W hW;clear hW;go_simp;exact HCBB.out)) hHeld ?_;try simp only [J])
 cases cb
 case true =>
  (refine Jt 20 (.bool true) rfl (yif_load1 rfl (by intro W hW;clear hW;go_simp)) hHeld ?_;try simp only [J])
  refine wpAnyH_done (by kernel_rfl) ?_ _
  have HH:=Lib.hid hHeld
  clear hHeld
  go_wp2_with fail
  go_ret
  exact ⟨rfl,HX3.out.trans HH.out⟩
 (refine Jt 20 (.bool false) rfl (yif_load1 rfl (by intro W hW;clear hW;go_simp)) hHeld ?_;try simp only [J])
 refine wpAnyH_done (by kernel_rfl) ?_ _
 obtain ⟨n,rfl⟩:=Int.eq_ofNat_of_zero_le (show 0 ≤ q by omega)
 have hnl:n ≤ l.length:=by omega
 have hc0:c=0:=by have:=HCBB.out;rwa [bne_eq_false_iff_eq] at this
 subst hc0
 obtain ⟨-,us,e1,e2,e3⟩:=HBH.out n HCC.out
 have HX7:=Lib.hid (HX3.out.trans hHeld)
 have HD7:=Lib.hid (HD3.out.ext hHeld)
 have HA7:=Lib.hid (HA3.out.ext hHeld)
 clear hHeld HX3 HD3 HA3 HCB HBH HCBB c0 c1 hq0 hq1 HIQQ
 generalize hwz:w7=wz at *
 clear hwz
 go_upto_region 10 with fail
 have hsp:=sumBy_part nodesT l n
 have HO1:=Lib.hid (ok_sub HOK.out false (l.take n) (fun t ht=>HWF.out t (List.mem_of_mem_take ht)) (by have:=HND.out;omega))
 have HO2:=Lib.hid (ok_sub HOK.out false (l.drop n) (fun t ht=>HWF.out t (List.mem_of_mem_drop ht)) (by have:=HND.out;omega))
 have hvu:=(runM_ok HO1.out (by rw [e1])).2.2.2
 rw [e1] at hvu
 have h64u:=HVU.out us hvu
 have HR1:=Lib.hid (fun W v' (h:Ext w W) (hf:FlatV W v' ⟨d.signals,[⟨false,l.take n⟩],[]⟩)=>Run_calls _ v' vs _ 0 W hf HO1.out (HUS.out W h) H64.out (by unfold i64r;decide))
 rw [e1] at HR1
 have HR2:=Lib.hid (fun W v' u' (hf:FlatV W v' ⟨d.signals,[⟨false,l.drop n⟩],[]⟩) (hu:Us W u' us)=>Run_calls _ v' us u' 0 W hf HO2.out hu h64u (by unfold i64r;decide))
 rw [e2] at HR2
 have HR3:=Lib.hid (fun W v' (h:Ext w W) (hf:FlatV W v' ⟨d.signals,[⟨false,[(⟨5,0,0,0,[],l⟩ : T)]⟩],[]⟩)=>Run_calls _ v' vs _ 0 W hf HOB.out (HUS.out W h) H64.out (by unfold i64r;decide))
 rw [e3] at HR3
 have HTT:=Lib.hid (fun W (h:Ext w W)=>Ts.take (HPT.out W h) n hnl)
 clear hsp hvu h64u e1 e2 e3
 refine wp_region_held_drew (S:=fun W=>Ext wz W) (by kernel_rfl) (Below.drew (Below.refl _ _)) (fun hHeld=>?_)
 try simp only [J]
 (refine Jt 0 (.agg [sv,.slice (some ⟨bp,op,none⟩) d.procs.length cp,cv].toArray) rfl (yif_load rfl 26 _ rfl rfl (fun W hW=>(HD7.out.ext hW).has) agg_Flat rfl) hHeld ?_;try simp only [J])
 (refine Jt 1 (.slice al l.length cl) rfl (yif_load1 rfl fun _ _=>rfl) hHeld ?_;try simp only [J])
 (refine Jt 2 (.int .i64 (n:Int)) rfl (yif_load1 rfl fun _ _=>rfl) hHeld ?_;try simp only [J])
 (refine Jt 3 (.slice al n cl) rfl (yif_load1 rfl (by intro W hW;clear hW;go_simp;try (intro h;omega))) hHeld ?_;try simp only [J])
 (refine Jt 5 (.slice av vs.length capv) rfl (yif_load1 rfl fun _ _=>rfl) hHeld ?_;try simp only [J])
 have HWT:=Lib.hid (with_calls d _ _ false _ wz.drew (HF.out _ (HX7.out.trans hHeld)) (HTT.out _ (HX7.out.trans hHeld)))
 (refine wpAnyH_ready (rs:=[4]) (by kernel_rfl) (by simp) ?_;refine AllReadyH.cons rfl (fun K hK=>?_) AllReadyH.nil)
 go_simp
 refine HWT.out.mono ?_
 rintro r w8 ⟨v8,rfl,hf8,hx8⟩
 refine hK.out _ _ (hHeld.trans hx8) (fun hHeld=>?_)
 clear hK K hx8 HWT
 try simp only [J]
 have HC8:=Lib.hid (HR1.out w8 v8 (HX7.out.trans hHeld) hf8)
 clear hf8
 (refine wpAnyH_ready (rs:=[6]) (by kernel_rfl) (by simp) ?_;refine AllReadyH.cons rfl (fun K hK=>?_) AllReadyH.nil)
 go_simp
 refine HC8.out.mono ?_
 rintro r w9 ⟨u9,rfl,hr9,hx9⟩
 obtain ⟨u9a,u9c,rfl,-⟩:=hr9.open
 have HU9:=Lib.hid hr9.cells
 refine hK.out _ _ (hHeld.trans hx9) (fun hHeld=>?_)
 clear hK K hx9 hr9 HC8
 try simp only [J]
 (refine Jt 7 (.tuple #[.slice u9a us.length u9c,.int .i64 0]) rfl (yif_load1 rfl fun _ _=>rfl) hHeld ?_;try simp only [J])
 (refine Jt 8 (.slice u9a us.length u9c) rfl (yif_load1 rfl (by intro W hW;clear hW;go_simp)) hHeld ?_;try simp only [J])
 (refine Jt 9 (.int .i64 0) rfl (yif_load1 rfl (by intro W hW;clear hW;go_simp)) hHeld ?_;try simp only [J])
 (refine Jt 10 (.slice u9a us.length u9c) rfl (yif_load1 rfl fun _ _=>rfl) hHeld ?_;try simp only [J])
 (refine Jt 11 (.int .i64 0) rfl (yif_load1 rfl fun _ _=>rfl) hHeld ?_;try simp only [J])
 refine wpAnyH_done (by kernel_rfl) ?_ _
 have HX9:=Lib.hid (HX7.out.trans hHeld)
 have HD9:=Lib.hid (HD7.out.ext hHeld)
 have HA9:=Lib.hid (HA7.out.ext hHeld)
 clear hHeld HX7 HD7 HA7
 go_upto_region 11 with fail
 refine wp_region_held_drew (S:=fun W=>Ext w9 W) (by kernel_rfl) (Below.drew (Below.refl _ _)) (fun hHeld=>?_)
 try simp only [J]
 (refine Jt 0 (.agg [sv,.slice (some ⟨bp,op,none⟩) d.procs.length cp,cv].toArray) rfl (yif_load rfl 26 _ rfl rfl (fun W hW=>(HD9.out.ext hW).has) agg_Flat rfl) hHeld ?_;try simp only [J])
 (refine Jt 1 (.slice al l.length cl) rfl (yif_load1 rfl fun _ _=>rfl) hHeld ?_;try simp only [J])
 (refine Jt 2 (.int .i64 (n:Int)) rfl (yif_load1 rfl fun _ _=>rfl) hHeld ?_;try simp only [J])
 obtain ⟨ad,had⟩ : ∃ ad,(if cl=n then al else al.map fun x=>x.add (n * 6))=ad:=⟨_,rfl⟩
 have HAD:=Lib.hid had
 clear had
 (refine Jt 3 (.slice ad (l.length - n) (cl - n)) rfl (yif_load1 rfl (by intro W hW;clear hW;go_simp;exact HAD.out)) hHeld ?_;try simp only [J])
 (refine Jt 5 (.slice u9a us.length u9c) rfl (yif_load1 rfl fun _ _=>rfl) hHeld ?_;try simp only [J])
 have HWT:=Lib.hid (with_calls d _ (.slice ad (l.length - n) (cl - n)) false (l.drop n) w9.drew (HF.out _ (HX9.out.trans hHeld)) (Ts.drop (HPT.out _ (HX9.out.trans hHeld)) n hnl HAD.out))
 (refine wpAnyH_ready (rs:=[4]) (by kernel_rfl) (by simp) ?_;refine AllReadyH.cons rfl (fun K hK=>?_) AllReadyH.nil)
 go_simp
 refine HWT.out.mono ?_
 rintro r wa ⟨va,rfl,hfa,hxa⟩
 have HUA:=Lib.hid (HU9.out.ext (hHeld.trans hxa))
 refine hK.out _ _ (hHeld.trans hxa) (fun hHeld=>?_)
 clear hK K hxa HWT
 try simp only [J]
 have HCA:=Lib.hid (HR2.out wa va _ hfa HUA.out)
 clear hfa
 (refine wpAnyH_ready (rs:=[6]) (by kernel_rfl) (by simp) ?_;refine AllReadyH.cons rfl (fun K hK=>?_) AllReadyH.nil)
 go_simp
 refine HCA.out.mono ?_
 rintro r wb ⟨ub,rfl,hrb,hxb⟩
 obtain ⟨uba,ubc,rfl,-⟩:=hrb.open
 have HUB:=Lib.hid hrb.cells
 refine hK.out _ _ (hHeld.trans hxb) (fun hHeld=>?_)
 clear hK K hxb hrb HCA
 try simp only [J]
 (refine Jt 7 (.tuple #[.slice uba xs.length ubc,.int .i64 0]) rfl (yif_load1 rfl fun _ _=>rfl) hHeld ?_;try simp only [J])
 (refine Jt 8 (.slice uba xs.length ubc) rfl (yif_load1 rfl (by intro W hW;clear hW;go_simp)) hHeld ?_;try simp only [J])
 (refine Jt 9 (.int .i64 0) rfl (yif_load1 rfl (by intro W hW;clear hW;go_simp)) hHeld ?_;try simp only [J])
 (refine Jt 10 (.slice uba xs.length ubc) rfl (yif_load1 rfl fun _ _=>rfl) hHeld ?_;try simp only [J])
 (refine Jt 11 (.int .i64 0) rfl (yif_load1 rfl fun _ _=>rfl) hHeld ?_;try simp only [J])
 refine wpAnyH_done (by kernel_rfl) ?_ _
 have HXB:=Lib.hid (HX9.out.trans hHeld)
 have HDB:=Lib.hid (HD9.out.ext hHeld)
 have HAB:=Lib.hid (HA9.out.ext hHeld)
 clear hHeld HX9 HD9 HA9 HUA HU9
 go_upto_region 12 with fail
 refine wp_region_held_drew (S:=fun W=>Ext wb W) (by kernel_rfl) (Below.drew (Below.refl _ _)) (fun hHeld=>?_)
 try simp only [J]
 (refine Jt 0 (.agg [sv,.slice (some ⟨bp,op,none⟩) d.procs.length cp,cv].toArray) rfl (yif_load rfl 26 _ rfl rfl (fun W hW=>(HDB.out.ext hW).has) agg_Flat rfl) hHeld ?_;try simp only [J])
 (refine Jt 1 (.slice al l.length cl) rfl (yif_load1 rfl fun _ _=>rfl) hHeld ?_;try simp only [J])
 (refine Jt 5 (.slice av vs.length capv) rfl (yif_load1 rfl fun _ _=>rfl) hHeld ?_;try simp only [J])
 (refine wpAnyH_ready (rs:=[2]) (by kernel_rfl) (by simp) ?_;refine AllReadyH.cons rfl (fun K hK=>?_) AllReadyH.nil)
 go_simp
 refine (block11_calls al l.length cl _).mono ?_
 rintro r wc ⟨rfl,hxc⟩
 refine hK.out _ _ (hHeld.trans hxc) (fun hHeld=>?_)
 clear hK K hxc
 try simp only [J]
 (refine wpAnyH_ready (rs:=[3]) (by kernel_rfl) (by simp) ?_;refine AllReadyH.cons rfl (fun K hK=>?_) AllReadyH.nil)
 refine step_bsN rfl _ 1 _ rfl appT (vs:=[.agg ([.int .i64 5,.int .i64 0,.int .i64 0,.int .i64 0,.slice none 0 0,.slice al l.length cl]:List Value).toArray]) rfl rfl (css:=[[.int .i64 5,.int .i64 0,.int .i64 0,.int .i64 0,.slice none 0 0,.slice al l.length cl]]) rfl (by intro cs h;simp at h;subst h;rfl) (by decide) (by decide) ?_
 have x5:=ext_alloc wc (.cells ([[.int .i64 5,.int .i64 0,.int .i64 0,.int .i64 0,.slice none 0 0,.slice al l.length cl]]:List (List Value)).flatten.toArray 60)
 have hb5:=Blk.new wc ([[.int .i64 5,.int .i64 0,.int .i64 0,.int .i64 0,.slice none 0 0,.slice al l.length cl]]:List (List Value)).flatten.toArray 60
 have hh5:=hHeld.trans x5
 obtain ⟨B2,hB2⟩ : ∃ B,wc.heap.size=B:=⟨_,rfl⟩
 rw [hB2] at hb5 ⊢
 refine hK.out _ _ hh5 (fun hHeld=>?_)
 clear hK K hB2 x5 hh5
 generalize wc.alloc _=wd at *
 try simp only [J]
 have hts:Ts wd (.slice (some ⟨B2,0,none⟩) 1 1) [(⟨5,0,0,0,[],l⟩ : T)]:=⟨B2,0,⟨_,1,rfl,Nat.le_refl _,by decide,fun _=>rfl⟩,TAt_iff.2 ⟨_,_,hb5.has,Sl.nil _ _,HPT.out wd (HXB.out.trans hHeld)⟩,trivial⟩
 have HWT:=Lib.hid (with_calls d _ _ false _ wd (HF.out wd (HXB.out.trans hHeld)) hts)
 clear hts hb5
 (refine wpAnyH_ready (rs:=[4]) (by kernel_rfl) (by simp) ?_;refine AllReadyH.cons rfl (fun K hK=>?_) AllReadyH.nil)
 go_simp
 refine HWT.out.mono ?_
 rintro r we ⟨ve,rfl,hfe,hxe⟩
 refine hK.out _ _ (hHeld.trans hxe) (fun hHeld=>?_)
 clear hK K hxe HWT
 try simp only [J]
 have HCE:=Lib.hid (HR3.out we ve (HXB.out.trans hHeld) hfe)
 clear hfe
 (refine wpAnyH_ready (rs:=[6]) (by kernel_rfl) (by simp) ?_;refine AllReadyH.cons rfl (fun K hK=>?_) AllReadyH.nil)
 go_simp
 refine HCE.out.mono ?_
 rintro r wf ⟨uf,rfl,hrf,hxf⟩
 obtain ⟨ufa,ufc,rfl,-⟩:=hrf.open
 have HUF:=Lib.hid hrf.cells
 refine hK.out _ _ (hHeld.trans hxf) (fun hHeld=>?_)
 clear hK K hxf hrf HCE
 try simp only [J]
 (refine Jt 7 (.tuple #[.slice ufa xs.length ufc,.int .i64 0]) rfl (yif_load1 rfl fun _ _=>rfl) hHeld ?_;try simp only [J])
 (refine Jt 8 (.slice ufa xs.length ufc) rfl (yif_load1 rfl (by intro W hW;clear hW;go_simp)) hHeld ?_;try simp only [J])
 (refine Jt 9 (.int .i64 0) rfl (yif_load1 rfl (by intro W hW;clear hW;go_simp)) hHeld ?_;try simp only [J])
 (refine Jt 10 (.slice ufa xs.length ufc) rfl (yif_load1 rfl fun _ _=>rfl) hHeld ?_;try simp only [J])
 (refine Jt 11 (.int .i64 0) rfl (yif_load1 rfl fun _ _=>rfl) hHeld ?_;try simp only [J])
 refine wpAnyH_done (by kernel_rfl) ?_ _
 have HXF:=Lib.hid (HXB.out.trans hHeld)
 have HW1:=Lib.hid (Words_calls11 _ _ _ _ wf (HAB.out.ext hHeld) (HUB.out.ext hHeld) HXL.out)
 have HW2:=Lib.hid (fun W (h:Ext wf W)=>Words_calls11 _ _ _ _ W (HAB.out.ext (hHeld.trans h)) (HUF.out.ext h) HXL.out)
 rw [decide_eq_true rfl] at HW1
 simp only [decide_true] at HW2
 clear hHeld HXB HDB HAB HUB HUF
 go_wp2_with (first | (go_at_call 25;refine (HW2.out wg hxg).mono ?_;rintro r wh ⟨rfl,hxh⟩) | (go_at_call 25;refine HW1.out.mono ?_;rintro r wg ⟨rfl,hxg⟩))
 go_ret
 exact ⟨rfl,HXF.out.trans (hxg.trans hxh)⟩
end Go.Proofs.YtaipaccpaljecaaGreat
