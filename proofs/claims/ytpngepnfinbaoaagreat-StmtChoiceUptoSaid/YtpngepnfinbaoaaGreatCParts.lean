/- Laws and walks that a claim of this seat leans on: Parts. -/
import Derived.Test.YtpngepnfinbaoaaGreatC04
import Derived.Test.YtpngepnfinbaoaaGreatC03
import Derived.Test.YtpngepnfinbaoaaGreatC05
import Derived.Shelf.RegionOpen
import Derived.Test.YtpngepnfinbaoaaGreatC00
set_option maxRecDepth 100000
set_option maxHeartbeats 8000000
set_option linter.all false
namespace Go.Proofs.YtpngepnfinbaoaaGreat
open Go.RowKit
/-! ### the bits that an expression reads -/
structure Span where
 sig:Int
 hi:Int
 lo:Int
abbrev Span.cells (x:Span):List Value:=[.int .i64 x.sig,.int .i64 x.hi,.int .i64 x.lo]
theorem agg_span:Agg Tryz.prog 81 3:=by unfold Agg;exact ⟨by kernel_rfl,by kernel_rfl⟩
def spans0 (ls:List Signal) (op sig hi lo:Int):List Span:=if op=2 then [⟨sig,hi,lo⟩] else if op=3 then [⟨sig,sigW ls sig-1,0⟩] else []
def partsE (ls:List Signal):E->List Span
 | ⟨op,_,_,sig,hi,lo,_,l⟩=>spans0 ls op sig hi lo++partsL l
where partsL:List E->List Span
 | []=>[]
 | e::l=>partsE ls e++partsL l
theorem partsE_eq (ls:List Signal) (e:E):partsE ls e=spans0 ls e.op e.sig e.hi e.lo++(e.l.map (partsE ls)).flatten:=by
 have h:∀ l,partsE.partsL ls l=(l.map (partsE ls)).flatten:=by
  intro l;induction l with
  | nil=>rfl
  | cons x l ih=>simp [partsE.partsL,ih]
 cases e;simp [partsE,h]
def IndOk (ls:List Signal):E->Prop
 | ⟨op,_,_,sig,_,_,_,l⟩=>(op=3->0<=sig/\sig<ls.length)/\oks l
where oks:List E->Prop
 | []=>True
 | e::l=>IndOk ls e/\oks l
theorem IndOk_iff (ls:List Signal) (e:E):IndOk ls e↔(e.op=3->0<=e.sig/\e.sig<ls.length)/\∀ x∈e.l,IndOk ls x:=by
 have h:∀ l,IndOk.oks ls l↔∀ e∈l,IndOk ls e:=by
  intro l;induction l with
  | nil=>simp [IndOk.oks]
  | cons x l ih=>simp [IndOk.oks,ih]
 cases e;simp [IndOk,h]
theorem indOk_of_shape (ls:List Signal) (e:E) (he:shape ls e=true):IndOk ls e:=by
 induction e using E.ind with
 | h e ih =>
  rw [shape_eq,Bool.and_eq_true,List.all_eq_true] at he
  refine (IndOk_iff ls e).2 ⟨fun h3=>?_,fun x hx=>ih x hx (he.2 x hx)⟩
  have h0:=he.1
  rw [h3] at h0
  simp [shape0] at h0
  omega
theorem parts_calls (v:Value) (sv pv cv:Value) (hv:v=.agg #[sv,pv,cv]) (h1:[sv,pv,cv].all (·.oneCell')=true) (x:E) (s:Value) (hs:s.oneCell'=true) (w:World) :
  Calls Tryz.prog 33 #[v,.agg (x.cells s).toArray] w fun r w'=>∃ Eb Db,Eb=w.heap.size+1/\Db=w.heap.size/\r=.returned (.func (.func 67) #[] #[.pointer (some ⟨Eb,0,none⟩),.pointer (some ⟨Db,0,none⟩)]) /\
   w'=(w.alloc (.cells [sv,pv,cv].toArray 26)).alloc (.cells (x.cells s).toArray 31):=by
 subst hv
 go_enter Tryz.func33,Tryz.ntmps33
 go_wp2_with fail
 go_ret
 exact ⟨_,_,rfl,rfl,rfl,rfl⟩
theorem leads_parts1:Leads Tryz.prog 67:=leads_of Tryz.func67 (by kernel_rfl) rfl
def PartsOk (ls:List Signal) (e:E):Prop:=∀ (n0:Nat) (wb w:World) (sv pv cv s:Value) (D Eb:Nat),Sigs wb sv ls->Es wb s e.l->[sv,pv,cv].all (·.oneCell')=true->wb.heap.size<=n0->Ext wb w->Blk w D #[sv,pv,cv] 26->Blk w Eb (e.cells s).toArray 31 ->
 n0<=w.heap.size->IndOk ls e->Seq Tryz.prog n0 67 #[.pointer (some ⟨Eb,0,none⟩),.pointer (some ⟨D,0,none⟩)] ((partsE ls e).map Span.cells) w
theorem parts1_step (ls:List Signal) (hls:∀ x∈ls,1<=x.w/\x.w<=64) (e:E) (ih:∀ x∈e.l,PartsOk ls x):PartsOk ls e:=by
 intro n0 wb w sv pv cv s D Eb hS hEs h3 hn0 hxb hD hE hnw hIO l J W hHW hnW hlW hJ hY hJ0
 have IH:=Jh ih
 have HLS:=Jh hls
 have HS:=Jh hS
 have H3:=Jh h3
 obtain ⟨io1,io2⟩:=(IndOk_iff ls e).1 hIO
 have HIO:=Jh io2
 obtain ⟨a',b',o',cap',hs',hc1',hc2',hsa,hsr⟩:=hS.open
 obtain ⟨ae,be,oe,cape,hse,hce1,hce2,hea,her⟩:=hEs.open
 subst hs'
 subst hse
 have HSA:=Jh hsa
 have HSR:=Jh hsr
 have HEA:=Jh hea
 have HER:=Jh her
 have HY:=Jh hY
 have HJ:=Jh hJ
 have HXW:=Jh (hHW.ext hxb hn0)
 have hDW:=hHW.blk hD (by decide)
 have hEW:=hHW.blk hE (by decide)
 obtain ⟨pre,hpre0,hpreS,hpreL⟩:∃ pre:Nat->List Span,pre 0=spans0 ls e.op e.sig e.hi e.lo/\(∀ k (hk:k<e.l.length),pre (k+1)=pre k++partsE ls e.l[k])/\pre e.l.length=partsE ls e :=
  ⟨fun k=>spans0 ls e.op e.sig e.hi e.lo++((e.l.take k).map (partsE ls)).flatten,by simp only [List.take_zero,List.map_nil,List.flatten_nil,List.append_nil],fun k hk=>by simp only [take_snoc _ _ hk,List.map_append,List.flatten_append,List.map_cons,List.map_nil,List.flatten_cons,List.flatten_nil,List.append_nil,List.append_assoc],by simp only [List.take_length];rw [partsE_eq ls e]⟩
 have hpost:∀ k,k<=e.l.length->∃ post,partsE ls e=pre k++post:=by
  have hm:∀ m k,k+m=e.l.length->∃ post,partsE ls e=pre k++post:=by
   intro m
   induction m with
   | zero=>intro k hk;exact ⟨[],by rw [<-hpreL,<-hk];simp⟩
   | succ m ih =>
    intro k hk
    obtain ⟨post,hp⟩:=ih (k+1) (by omega)
    exact ⟨_,by rw [hp,hpreS k (by omega),List.append_assoc]⟩
  exact fun k hk=>hm (e.l.length-k) k (by omega)
 have HPL:=Jh hpreL
 have HP0:=Jh hpre0
 have HPS:=Jh hpreS
 have HPO:=Jh hpost
 clear ih hls hS h3 hIO io2 hsa hsr hea her hEs hY hJ hpre0 hpreS hpreL hpost hD hE
 have hX:=ext_alloc W (.cells #[.func (.yield l) #[] #[]] 122)
 have hbY:=Blk.new W #[.func (.yield l) #[] #[]] 122
 have HBY:=Jh hbY
 have HBD:=Jh (hDW.ext hX)
 have HBE:=Jh (hEW.ext hX)
 have hJ1:=HJ.out.alloc (.cells #[.func (.yield l) #[] #[]] 122) hJ0
 have hsY:(W.alloc (.cells #[.func (.yield l) #[] #[]] 122)).heap.size=W.heap.size+1:=by simp
 have hHX:=Hard.of_ext hX hnW
 clear hbY hDW hEW
 refine callsIn_wide.1 (callsIn_of_wp_marks (n:=0) Tryz.func67 rfl trivial ?_);rw [wpIn_wide];simp only [Tryz.ntmps67,List.size_toArray,List.length_cons,List.length_nil,Nat.reduceAdd,Nat.reduceSub,Array.replicate_succ,Array.replicate_zero,List.push_toArray,List.append_toArray,List.nil_append,List.cons_append]
 let hfn:=bodyPost Tryz.prog Tryz.f67
 go_upto_region 1 with fail
 generalize W.alloc _=wY at *
 have g0:=HBE.out.has 0 _ rfl
 have y0:wY.cell? ⟨W.heap.size,0,none⟩=some (.func (.yield l) #[] #[]):=by rw [HBY.out.cell];rfl
 go_cut [7] (fun u wr=>u=.bool false/\J (if e.op=2 then [Span.cells ⟨e.sig,e.hi,e.lo⟩] else []) wr/\Hard n0 wY wr)
 case first =>
  rename_i cJ cK hcJ hcK
  by_cases o2:e.op=2
  ·have b2:(e.op==2)=true:=by rw [beq_iff_eq];exact o2
   have HO2:=Jh o2
   have g3:=HBE.out.has 3 _ rfl
   have g4:=HBE.out.has 4 _ rfl
   have g5:=HBE.out.has 5 _ rfl
   have hp:partsE ls e=⟨e.sig,e.hi,e.lo⟩::(e.l.map (partsE ls)).flatten:=by rw [partsE_eq];simp [spans0,o2]
   have hyy:=HY.out [] (Span.cells ⟨e.sig,e.hi,e.lo⟩) wY hJ1 ⟨_,by rw [hp];rfl⟩ (by omega)
   have HYY:=Jh hyy
   clear o2 hp hyy
   refine wp_region_in ?_
   iterate 12 (refine listIn_op rfl rfl fun K hK=>?_;go_simp;refine hK _ _ ?_;clear hK)
   refine listIn_yield rfl _ _ _ rfl rfl rfl (HYY.out) ?_
   rintro w5 ⟨hJ5,hH5,hK5⟩
   iterate 3 (refine listIn_op rfl rfl fun K hK=>?_;go_simp;refine hK _ _ ?_;clear hK)
   unfold wpListIn
   refine hcK _ _ (Met.intro (hcJ _ _ ?_))
   (repeat apply Exists.intro)
   refine ⟨?rel,rfl⟩
   exact ⟨rfl,by rw [if_pos HO2.out];exact hJ5,hH5⟩
  ·have b2:(e.op==2)=false:=by rw [beq_eq_false_iff_ne];exact o2
   have HO2:=Jh o2
   clear o2
   go_wp2_with fail
   go_meet
   exact ⟨rfl,by rw [if_neg HO2.out];exact hJ1,Hard.refl _ _⟩
 case rest =>
  obtain ⟨rfl,hJ2,hH2⟩:=hcut
  have HE2:=Jh (hH2.blk HBE.out (by decide))
  have HD2:=Jh (hH2.blk HBD.out (by decide))
  have HY2:=Jh (hH2.blk HBY.out (by decide))
  have HH2:=Jh (hHX.trans hH2)
  have HX2:=Jh (HH2.out.ext HXW.out hn0)
  have hn2:W.heap.size<wc.heap.size:=by have:=hH2.below.size;omega
  clear y0 g0 hJ1 hHX hH2 hsY
  go_upto_region 2 with fail
  go_cut [23] (fun u wr=>u=.bool false/\J ((pre 0).map Span.cells) wr/\Hard n0 wc wr)
  case first =>
   rename_i cJ cK hcJ hcK
   refine wp_region_any_in (S:=fun W3=>Blk W3 Eb (e.cells (.slice ae e.l.length cape)).toArray 31/\Blk W3 D #[.slice a' ls.length cap',pv,cv] 26/\Blk W3 W.heap.size #[.func (.yield l) #[] #[]] 122/\Ext wb W3) (by kernel_rfl)
    ⟨HE2.out.drew,HD2.out.drew,HY2.out.drew,HX2.out.drew⟩ (fun hH=>?_)
   by_cases o3:e.op=3
   ·have b3:(e.op==3)=true:=by rw [beq_iff_eq];exact o3
    obtain ⟨i1,i2⟩:=io1 o3
    obtain ⟨k,hk⟩:∃ k:Nat,e.sig=k:=⟨e.sig.toNat,by omega⟩
    have hlt:k<ls.length:=by omega
    obtain rfl:=HSA.out (by omega)
    have hsig:∀ W3,Ext wb W3->W3.cell? ⟨b',o'+k*4+1,Option.none⟩=some (.int .i64 ls[k].w):=fun W3 hx=>(Sigs.get (HSR.out.mono fun x _ b o h=>SigAt.ext' hx h) hlt) 1 _ rfl
    have hww:=HLS.out _ (List.getElem_mem hlt)
    have hw1:IntKind.i64.wrap (ls[k].w-1)=ls[k].w-1:=by rw [IntKind.wrap_i64];omega
    have hwe:sigW ls e.sig=ls[k].w:=by simp [sigW,hk,List.getElem?_eq_getElem hlt]
    (refine AnyS.take (i:=0) (v:=_) rfl (by kernel_rfl) (by kernel_rfl) (by kernel_rfl) (fun _ _ _ h=>h) (yif_load1 rfl fun _ _=>rfl) hH ?_;try simp only [Act.put,Jd,Jc,Jb,Ja,Je,Jf])
    (refine AnyS.take (i:=1) (v:=.int .i64 e.op) rfl (by kernel_rfl) (by kernel_rfl) (by kernel_rfl) (fun _ _ _ h=>h) (yif_load1 rfl (by intro W3 hW;have hw:=hW.1.has 0 _ rfl;clear hW;go_simp)) hH ?_;try simp only [Act.put,Jd,Jc,Jb,Ja,Je,Jf])
    (refine AnyS.take (i:=2) (v:=.bool true) rfl (by kernel_rfl) (by kernel_rfl) (by kernel_rfl) (fun _ _ _ h=>h) (yif_load1 rfl (by intro W3 hW;clear hW;go_simp)) hH ?_;try simp only [Act.put,Jd,Jc,Jb,Ja,Je,Jf])
    (refine AnyS.take (i:=3) (v:=_) rfl (by kernel_rfl) (by kernel_rfl) (by kernel_rfl) (fun _ _ _ h=>h) (yif_load1 rfl fun _ _=>rfl) hH ?_;try simp only [Act.put,Jd,Jc,Jb,Ja,Je,Jf])
    (refine AnyS.take (i:=4) (v:=.func (.yield l) #[] #[]) rfl (by kernel_rfl) (by kernel_rfl) (by kernel_rfl) (fun _ _ _ h=>h) (yif_load1 rfl (by intro W3 hW;have hw:W3.cell? ⟨W.heap.size,0,none⟩=some (.func (.yield l) #[] #[]):=by { rw [hW.2.2.1.cell];rfl };clear hW;go_simp)) hH ?_;try simp only [Act.put,Jd,Jc,Jb,Ja,Je,Jf])
    (refine AnyS.take (i:=5) (v:=_) rfl (by kernel_rfl) (by kernel_rfl) (by kernel_rfl) (fun _ _ _ h=>h) (yif_load1 rfl fun _ _=>rfl) hH ?_;try simp only [Act.put,Jd,Jc,Jb,Ja,Je,Jf])
    (refine AnyS.take (i:=6) (v:=.int .i64 k) rfl (by kernel_rfl) (by kernel_rfl) (by kernel_rfl) (fun _ _ _ h=>h) (yif_load1 rfl (by intro W3 hW;have hw:=hW.1.has 3 _ rfl;rw [hk] at hw;clear hW;go_simp)) hH ?_;try simp only [Act.put,Jd,Jc,Jb,Ja,Je,Jf])
    (refine AnyS.take (i:=7) (v:=_) rfl (by kernel_rfl) (by kernel_rfl) (by kernel_rfl) (fun _ _ _ h=>h) (yif_load1 rfl fun _ _=>rfl) hH ?_;try simp only [Act.put,Jd,Jc,Jb,Ja,Je,Jf])
    (refine AnyS.take (i:=8) (v:=.slice (some ⟨b',o',Option.none⟩) ls.length cap') rfl (by kernel_rfl) (by kernel_rfl) (by kernel_rfl) (fun _ _ _ h=>h) (yif_load1 rfl (by intro W3 hW;have hw:=hW.2.1.has 0 _ rfl;clear hW;go_simp)) hH ?_;try simp only [Act.put,Jd,Jc,Jb,Ja,Je,Jf])
    (refine AnyS.take (i:=9) (v:=_) rfl (by kernel_rfl) (by kernel_rfl) (by kernel_rfl) (fun _ _ _ h=>h) (yif_load1 rfl fun _ _=>rfl) hH ?_;try simp only [Act.put,Jd,Jc,Jb,Ja,Je,Jf])
    (refine AnyS.take (i:=10) (v:=.int .i64 k) rfl (by kernel_rfl) (by kernel_rfl) (by kernel_rfl) (fun _ _ _ h=>h) (yif_load1 rfl (by intro W3 hW;have hw:=hW.1.has 3 _ rfl;rw [hk] at hw;clear hW;go_simp)) hH ?_;try simp only [Act.put,Jd,Jc,Jb,Ja,Je,Jf])
    (refine AnyS.take (i:=11) (v:=.pointer (some ⟨b',o'+k*4,Option.none⟩)) rfl (by kernel_rfl) (by kernel_rfl) (by kernel_rfl) (fun _ _ _ h=>h) (yif_load1 rfl (by intro W3 hW;clear hW;go_simp)) hH ?_;try simp only [Act.put,Jd,Jc,Jb,Ja,Je,Jf])
    (refine AnyS.take (i:=12) (v:=.pointer (some ⟨b',o'+k*4+1,Option.none⟩)) rfl (by kernel_rfl) (by kernel_rfl) (by kernel_rfl) (fun _ _ _ h=>h) (yif_load1 rfl fun _ _=>rfl) hH ?_;try simp only [Act.put,Jd,Jc,Jb,Ja,Je,Jf])
    (refine AnyS.take (i:=13) (v:=.int .i64 ls[k].w) rfl (by kernel_rfl) (by kernel_rfl) (by kernel_rfl) (fun _ _ _ h=>h) (yif_load1 rfl (by intro W3 hW;have hw:=hsig W3 hW.2.2.2;clear hW;go_simp)) hH ?_;try simp only [Act.put,Jd,Jc,Jb,Ja,Je,Jf])
    (refine AnyS.take (i:=14) (v:=.int .i64 (ls[k].w-1)) rfl (by kernel_rfl) (by kernel_rfl) (by kernel_rfl) (fun _ _ _ h=>h) (yif_load1 rfl (by intro W3 hW;clear hW;go_simp)) hH ?_;try simp only [Act.put,Jd,Jc,Jb,Ja,Je,Jf])
    (refine AnyS.take (i:=15) (v:=.agg (Span.cells ⟨k,ls[k].w-1,0⟩).toArray) rfl (by kernel_rfl) (by kernel_rfl) (by kernel_rfl) (fun _ _ _ h=>h) (yif_load1 rfl (by intro W3 hW;clear hW;go_simp)) hH ?_;try simp only [Act.put,Jd,Jc,Jb,Ja,Je,Jf])
    have hp:partsE ls e=⟨k,ls[k].w-1,0⟩::(e.l.map (partsE ls)).flatten:=by rw [partsE_eq];simp [spans0,o3,hk,<-hwe]
    have hJ3:J [] wc.drew:=HJ.out [] wc wc.drew Option.none (by rw [if_neg (by omega)] at hJ2;exact hJ2) ⟨rfl,rfl,rfl,Nat.le_refl _,fun _ _ _=>rfl⟩ (fun r e=>by cases e)
    refine AnyS.yield (i:=16) (by kernel_rfl) rfl rfl _ _ _ rfl rfl rfl (HY.out [] (Span.cells ⟨k,ls[k].w-1,0⟩) wc.drew hJ3 ⟨_,by rw [hp];rfl⟩ (Nat.le_of_lt hn2)) ?_
    rintro W4 ⟨hJ4,hH4,hK4⟩
    replace hH:=And.intro (hH4.blk hH.1 (by decide)) (And.intro (hH4.blk hH.2.1 (by decide)) (And.intro (hH4.blk hH.2.2.1 (by decide)) (hH4.ext hH.2.2.2 hn0)))
    refine ⟨hH,?_⟩
    simp only [Act.put,Jd,Jc,Jb,Ja,Je,Jf]
    (refine AnyS.take (i:=17) (v:=.bool false) rfl (by kernel_rfl) (by kernel_rfl) (by kernel_rfl) (fun _ _ _ h=>h) (yif_load1 rfl fun _ _=>rfl) hH ?_;try simp only [Act.put,Jd,Jc,Jb,Ja,Je,Jf])
    (refine AnyS.take (i:=18) (v:=.bool false) rfl (by kernel_rfl) (by kernel_rfl) (by kernel_rfl) (fun _ _ _ h=>h) (yif_load1 rfl (by intro W3 hW;clear hW;go_simp)) hH ?_;try simp only [Act.put,Jd,Jc,Jb,Ja,Je,Jf])
    (refine AnyS.take (i:=19) (v:=.bool false) rfl (by kernel_rfl) (by kernel_rfl) (by kernel_rfl) (fun _ _ _ h=>h) (yif_load1 rfl (by intro W3 hW;clear hW;go_simp)) hH ?_;try simp only [Act.put,Jd,Jc,Jb,Ja,Je,Jf])
    refine AnyS.done (by kernel_rfl) ?_ _
    refine hcK _ _ (Met.intro (hcJ _ _ ?_))
    (repeat apply Exists.intro)
    refine ⟨?rel2,rfl⟩
    refine ⟨rfl,?_,(Hard.drew _).trans hH4⟩
    rw [HP0.out]
    simpa [spans0,o3,hk,<-hwe] using hJ4
   ·have b3:(e.op==3)=false:=by rw [beq_eq_false_iff_ne];exact o3
    (refine AnyS.take (i:=0) (v:=_) rfl (by kernel_rfl) (by kernel_rfl) (by kernel_rfl) (fun _ _ _ h=>h) (yif_load1 rfl fun _ _=>rfl) hH ?_;try simp only [Act.put,Jd,Jc,Jb,Ja,Je,Jf])
    (refine AnyS.take (i:=1) (v:=.int .i64 e.op) rfl (by kernel_rfl) (by kernel_rfl) (by kernel_rfl) (fun _ _ _ h=>h) (yif_load1 rfl (by intro W3 hW;have hw:=hW.1.has 0 _ rfl;clear hW;go_simp)) hH ?_;try simp only [Act.put,Jd,Jc,Jb,Ja,Je,Jf])
    (refine AnyS.take (i:=2) (v:=.bool false) rfl (by kernel_rfl) (by kernel_rfl) (by kernel_rfl) (fun _ _ _ h=>h) (yif_load1 rfl (by intro W3 hW;clear hW;go_simp)) hH ?_;try simp only [Act.put,Jd,Jc,Jb,Ja,Je,Jf])
    (refine AnyS.take (i:=3) (v:=_) rfl (by kernel_rfl) (by kernel_rfl) (by kernel_rfl) (fun _ _ _ h=>h) (yif_load1 rfl fun _ _=>rfl) hH ?_;try simp only [Act.put,Jd,Jc,Jb,Ja,Je,Jf])
    (refine AnyS.take (i:=4) (v:=undef) rfl (by kernel_rfl) (by kernel_rfl) (by kernel_rfl) (fun _ _ _ h=>h) (Or.inr ⟨rfl,rfl⟩) hH ?_;try simp only [Act.put,Jd,Jc,Jb,Ja,Je,Jf])
    (refine AnyS.take (i:=5) (v:=undef) rfl (by kernel_rfl) (by kernel_rfl) (by kernel_rfl) (fun _ _ _ h=>h) (Or.inr ⟨rfl,rfl⟩) hH ?_;try simp only [Act.put,Jd,Jc,Jb,Ja,Je,Jf])
    (refine AnyS.take (i:=6) (v:=undef) rfl (by kernel_rfl) (by kernel_rfl) (by kernel_rfl) (fun _ _ _ h=>h) (Or.inr ⟨rfl,rfl⟩) hH ?_;try simp only [Act.put,Jd,Jc,Jb,Ja,Je,Jf])
    (refine AnyS.take (i:=7) (v:=undef) rfl (by kernel_rfl) (by kernel_rfl) (by kernel_rfl) (fun _ _ _ h=>h) (Or.inr ⟨rfl,rfl⟩) hH ?_;try simp only [Act.put,Jd,Jc,Jb,Ja,Je,Jf])
    (refine AnyS.take (i:=8) (v:=undef) rfl (by kernel_rfl) (by kernel_rfl) (by kernel_rfl) (fun _ _ _ h=>h) (Or.inr ⟨rfl,rfl⟩) hH ?_;try simp only [Act.put,Jd,Jc,Jb,Ja,Je,Jf])
    (refine AnyS.take (i:=9) (v:=undef) rfl (by kernel_rfl) (by kernel_rfl) (by kernel_rfl) (fun _ _ _ h=>h) (Or.inr ⟨rfl,rfl⟩) hH ?_;try simp only [Act.put,Jd,Jc,Jb,Ja,Je,Jf])
    (refine AnyS.take (i:=10) (v:=undef) rfl (by kernel_rfl) (by kernel_rfl) (by kernel_rfl) (fun _ _ _ h=>h) (Or.inr ⟨rfl,rfl⟩) hH ?_;try simp only [Act.put,Jd,Jc,Jb,Ja,Je,Jf])
    (refine AnyS.take (i:=11) (v:=undef) rfl (by kernel_rfl) (by kernel_rfl) (by kernel_rfl) (fun _ _ _ h=>h) (Or.inr ⟨rfl,rfl⟩) hH ?_;try simp only [Act.put,Jd,Jc,Jb,Ja,Je,Jf])
    (refine AnyS.take (i:=12) (v:=undef) rfl (by kernel_rfl) (by kernel_rfl) (by kernel_rfl) (fun _ _ _ h=>h) (Or.inr ⟨rfl,rfl⟩) hH ?_;try simp only [Act.put,Jd,Jc,Jb,Ja,Je,Jf])
    (refine AnyS.take (i:=13) (v:=undef) rfl (by kernel_rfl) (by kernel_rfl) (by kernel_rfl) (fun _ _ _ h=>h) (Or.inr ⟨rfl,rfl⟩) hH ?_;try simp only [Act.put,Jd,Jc,Jb,Ja,Je,Jf])
    (refine AnyS.take (i:=14) (v:=undef) rfl (by kernel_rfl) (by kernel_rfl) (by kernel_rfl) (fun _ _ _ h=>h) (Or.inr ⟨rfl,rfl⟩) hH ?_;try simp only [Act.put,Jd,Jc,Jb,Ja,Je,Jf])
    (refine AnyS.take (i:=15) (v:=undef) rfl (by kernel_rfl) (by kernel_rfl) (by kernel_rfl) (fun _ _ _ h=>h) (Or.inr ⟨rfl,rfl⟩) hH ?_;try simp only [Act.put,Jd,Jc,Jb,Ja,Je,Jf])
    (refine AnyS.take (i:=16) (v:=undef) rfl (by kernel_rfl) (by kernel_rfl) (by kernel_rfl) (fun _ _ _ h=>h) (Or.inr ⟨rfl,rfl⟩) hH ?_;try simp only [Act.put,Jd,Jc,Jb,Ja,Je,Jf])
    (refine AnyS.take (i:=17) (v:=undef) rfl (by kernel_rfl) (by kernel_rfl) (by kernel_rfl) (fun _ _ _ h=>h) (Or.inr ⟨rfl,rfl⟩) hH ?_;try simp only [Act.put,Jd,Jc,Jb,Ja,Je,Jf])
    (refine AnyS.take (i:=18) (v:=.bool false) rfl (by kernel_rfl) (by kernel_rfl) (by kernel_rfl) (fun _ _ _ h=>h) (yif_load1 rfl (by intro W3 hW;clear hW;go_simp)) hH ?_;try simp only [Act.put,Jd,Jc,Jb,Ja,Je,Jf])
    (refine AnyS.take (i:=19) (v:=.bool false) rfl (by kernel_rfl) (by kernel_rfl) (by kernel_rfl) (fun _ _ _ h=>h) (yif_load1 rfl (by intro W3 hW;clear hW;go_simp)) hH ?_;try simp only [Act.put,Jd,Jc,Jb,Ja,Je,Jf])
    refine AnyS.done (by kernel_rfl) ?_ _
    refine hcK _ _ (Met.intro (hcJ _ _ ?_))
    (repeat apply Exists.intro)
    refine ⟨?rel3,rfl⟩
    refine ⟨rfl,?_,Hard.drew _⟩
    rw [HP0.out]
    refine HJ.out _ wc wc.drew Option.none ?_ ⟨rfl,rfl,rfl,Nat.le_refl _,fun _ _ _=>rfl⟩ (fun r e=>by cases e)
    by_cases o2:e.op=2
    ·simpa [spans0,o2] using hJ2
    ·simpa [spans0,o2,o3] using hJ2
  case rest =>
   obtain ⟨rfl,hJ3,hH3⟩:=hcut
   have HE3:=Jh (hH3.blk HE2.out (by decide))
   have HD3:=Jh (hH3.blk HD2.out (by decide))
   have HY3:=Jh (hH3.blk HY2.out (by decide))
   have HH3:=Jh (HH2.out.trans hH3)
   have HX3:=Jh (HH3.out.ext HXW.out hn0)
   have hn3:W.heap.size<wc.heap.size:=by have:=hH3.below.size;omega
   generalize hpe:partsE ls e=pe at *
   have g7:=HE3.out.has 7 _ rfl
   clear hJ2 HH2 HX2 hn2 hH3 HE2 HD2 HY2 HBE HBD HBY
   go_wp2_with fail
   refine wp_loop (fun a wr=>∃ (k:Nat) (x5 x6 x47 x48 x49 x50 x51 x52 x53 x54 x55 x56 x57 x58:Value) (ds:List Deferred),a=⟨#[.func (.yield l) #[] #[],.pointer (some ⟨Eb,0,Option.none⟩),.pointer (some ⟨D,0,Option.none⟩),.pointer (some ⟨W.heap.size,0,Option.none⟩),undef,x5,x6,.bool false,u8,u9,u10,u11,u12,u13,u14,u15,u16,u17,u18,u19,u20,u21,u22,.bool false,u24,u25,u26,u27,u28,u29,u30,u31,u32,u33,u34,u35,u36,u37,u38,u39,u40,u41,u42,.pointer (some ⟨Eb,7,Option.none⟩),.slice ae e.l.length cape,.int .i64 e.l.length,.int .i64 k,x47,x48,x49,x50,x51,x52,x53,x54,x55,x56,x57,x58],ds⟩ /\
    k<=e.l.length/\J ((pre k).map Span.cells) wr/\Hard n0 W wr/\Marks W.heap.size ds wr/\Blk wr D #[.slice a' ls.length cap',pv,cv] 26/\Blk wr W.heap.size #[.func (.yield l) #[] #[]] 122/\W.heap.size<wr.heap.size) (fun a _=>e.l.length-(intOf (a.tmps.getD 46 undef)).toNat)
    ⟨0,_,_,_,_,_,_,_,_,_,_,_,_,_,_,[],rfl,Nat.zero_le _,hJ3,HH3.out,Marks.nil _ _,HD3.out,HY3.out,hn3⟩ ?_
   clear hJ3 HE3 HD3 HY3 HH3 HX3 hn3 g7
   rintro a wr ⟨k,x5,x6,x47,x48,x49,x50,x51,x52,x53,x54,x55,x56,x57,x58,ds,rfl,hk,hJk,hHk,hMk,hDk,hYk,hsk⟩
   have HJK:=Jh hJk
   have HHK:=Jh hHk
   have HMK:=Jh hMk
   have HYK:=Jh hYk
   have HDK:=Jh hDk
   clear hJk hHk hMk hYk hDk
   have HXK:=Jh (HHK.out.ext HXW.out hn0)
   by_cases hlt:k<e.l.length
   ·obtain ⟨s1,hhas,hes⟩:=Es.get HER.out hlt
    obtain rfl:=HEA.out (by omega)
    obtain ⟨post,hpo⟩:=HPO.out (k+1) hlt
    have hps:=HPS.out k hlt
    have hih:=IH.out _ (List.getElem_mem hlt)
    have hio:=HIO.out _ (List.getElem_mem hlt)
    generalize e.l[k]=ek at *
    have HPS2:=Jh hps
    have HPO2:=Jh hpo
    have HIH:=Jh hih
    have HIK:=Jh hio
    have HES:=Jh hes
    have HH1:=Jh (hhas.ext HXK.out)
    clear hps hpo hih hio hes hhas
    have hx4:=ext_alloc wr (.cells (ek.cells s1).toArray 31)
    have hb4:=Blk.new wr (ek.cells s1).toArray 31
    have hJ4:=HJ.out.alloc (.cells (ek.cells s1).toArray 31) HJK.out
    have hs4:(wr.alloc (.cells (ek.cells s1).toArray 31)).heap.size=wr.heap.size+1:=by simp
    have hD4:=HDK.out.ext hx4
    go_upto_region 6 with (first | ((with_reducible show Jl 31);refine Jm 31 (HH1.out) agg_E rfl ?_) | ((with_reducible show Js 31);refine wpList_store_new rfl 31 _ _ rfl rfl (by first | rfl | simp) rfl agg_E (rfl) rfl (by simp [HES.out.one,one_int]) ?_))
    generalize wr.alloc _=w4 at *
    go_wp2_with (first | ((with_reducible show Jl 26);refine Jm 26 (hD4.has) agg_Flat rfl ?_) | ((with_reducible show Jl 31);refine Jm 31 (hb4.has) agg_E rfl ?_) | (go_at_call 33;refine (parts_calls _ _ _ _ rfl (by simpa using H3.out) ek s1 HES.out.one _).mono ?_;rintro r w6 ⟨E6,D6,hE6e,hD6e,rfl,rfl⟩))
    have hx6:=(ext_alloc w4 (.cells #[.slice a' ls.length cap',pv,cv] 26)).trans (ext_alloc _ (.cells (ek.cells s1).toArray 31))
    have hbD:=(Blk.new w4 #[.slice a' ls.length cap',pv,cv] 26).ext (ext_alloc _ (.cells (ek.cells s1).toArray 31))
    have hbE:=Blk.new (w4.alloc (.cells #[.slice a' ls.length cap',pv,cv] 26)) (ek.cells s1).toArray 31
    have hJ6:=HJ.out.alloc (.cells (ek.cells s1).toArray 31) (HJ.out.alloc (.cells #[.slice a' ls.length cap',pv,cv] 26) hJ4)
    have hs6:((w4.alloc (.cells #[.slice a' ls.length cap',pv,cv] 26)).alloc (.cells (ek.cells s1).toArray 31)).heap.size=w4.heap.size+2:=by simp
    rw [show (w4.alloc (.cells #[.slice a' ls.length cap',pv,cv] 26)).heap.size=w4.heap.size+1 by simp] at hbE
    have hM6:=(HMK.out.ext hx4).ext hx6
    have hY6:=(HYK.out.ext hx4).ext hx6
    have hD6:=hD4.ext hx6
    have hH6:=(HHK.out.trans (Hard.of_ext hx4 (by omega))).trans (Hard.of_ext hx6 (by omega))
    rw [hs4] at hE6e hD6e hbE hbD hs6
    subst hE6e hD6e
    generalize (w4.alloc _).alloc _=w6 at *
    have hlt6:∀ M,markOf M∈ds->M<w6.heap.size:=fun M hM=>hM6.lt hM
    have HLT6:=Jh hlt6
    have HX6:=Jh (hH6.ext HXW.out hn0)
    have hseq:Seq Tryz.prog n0 67 #[.pointer (some ⟨wr.heap.size+1+1,0,none⟩),.pointer (some ⟨wr.heap.size+1,0,none⟩)] ((partsE ls ek).map Span.cells) w6:=HIH.out n0 wb w6 (.slice a' ls.length cap') pv cv s1 (wr.heap.size+1) (wr.heap.size+1+1) HS.out HES.out H3.out hn0 HX6.out hbD hbE (by omega) HIK.out
    have HSEQ:=Jh hseq
    clear hseq HIH HIK
    generalize partsE ls ek=pk at *
    refine wp_range (n0:=n0) rfl leads_parts1 HSEQ.out rfl (by omega)
     (fun pre' Wx=>J ((pre k).map Span.cells++pre') Wx/\Hard n0 W Wx/\Marks W.heap.size ds Wx/\Blk Wx D #[.slice a' ls.length cap',pv,cv] 26/\Blk Wx W.heap.size #[.func (.yield l) #[] #[]] 122/\W.heap.size<Wx.heap.size)
     (fun s A B row hs hg hr=>⟨HJ.out _ A B row hs.1 hg (fun r e=>⟨by have:=(hr r e).1;omega,(hr r e).2⟩),own_hard hs.2.1 (by omega) (by have:=hs.2.2.2.2.2;omega) hg hr,own_marks hs.2.2.1 HLT6.out hg hr,own_blk hs.2.2.2.1 hg hr,own_blk hs.2.2.2.2.1 hg hr,own_size hs.2.2.2.2.2 hg⟩)
     ⟨by simpa using hJ6,hH6,hM6,hD6,hY6,by omega⟩
     (fun pre' x aM Wx=>(J ((pre k).map Span.cells++pre') Wx/\Hard n0 W Wx/\Marks W.heap.size ds Wx/\Blk Wx D #[.slice a' ls.length cap',pv,cv] 26/\Blk Wx W.heap.size #[.func (.yield l) #[] #[]] 122/\W.heap.size<Wx.heap.size) /\
      ∃ (U:Nat) (sp:Span),x=sp.cells/\Blk Wx U x.toArray 81/\aM=⟨#[.func (.yield l) #[] #[],.pointer (some ⟨Eb,0,Option.none⟩),.pointer (some ⟨D,0,Option.none⟩),.pointer (some ⟨W.heap.size,0,Option.none⟩),undef,.pointer (some ⟨wr.heap.size,0,Option.none⟩),.pointer (some ⟨U,0,Option.none⟩),.bool false,u8,u9,u10,u11,u12,u13,u14,u15,u16,u17,u18,u19,u20,u21,u22,.bool false,u24,u25,u26,u27,u28,u29,u30,u31,u32,u33,u34,u35,u36,u37,u38,u39,u40,u41,u42,.pointer (some ⟨Eb,7,Option.none⟩),.slice (some ⟨be,oe,Option.none⟩) e.l.length cape,.int .i64 e.l.length,.int .i64 k,.bool true,.pointer (some ⟨be,oe+k*8,Option.none⟩),.agg (ek.cells s1).toArray,.agg #[.slice a' ls.length cap',pv,cv],.agg (ek.cells s1).toArray,.func (.func 67) #[] #[.pointer (some ⟨wr.heap.size+1+1,0,Option.none⟩),.pointer (some ⟨wr.heap.size+1,0,Option.none⟩)],.agg x.toArray,x54,x55,x56,x57,x58],[]⟩)
     (fun pre' x aM s A B row hs hg hr=>⟨⟨HJ.out _ A B row hs.1.1 hg (fun r e=>⟨by have:=(hr r e).1;omega,(hr r e).2⟩),own_hard hs.1.2.1 (by omega) (by have:=hs.1.2.2.2.2.2;omega) hg hr,own_marks hs.1.2.2.1 HLT6.out hg hr,own_blk hs.1.2.2.2.1 hg hr,own_blk hs.1.2.2.2.2.1 hg hr,own_size hs.1.2.2.2.2.2 hg⟩,by
      obtain ⟨U,sp,h1,h2,h3⟩:=hs.2
      exact ⟨U,sp,h1,own_blk h2 hg hr,h3⟩⟩) ?assign ?body ?done
    case assign =>
     rintro l' m pre' x Wx ⟨q1,q2,q3,q4,q5,q6⟩ ⟨post',hxp⟩ hsz
     obtain ⟨sp,-,rfl⟩:=List.mem_map.1 (show x∈pk.map Span.cells by rw [hxp];simp)
     refine regionIn_of_list (r:=some l') (by kernel_rfl) (by rintro ⟨_,_,h⟩;exact h) ?_
     have hxu:=ext_alloc Wx (.cells sp.cells.toArray 81)
     have hbu:=Blk.new Wx sp.cells.toArray 81
     go_wp2_with (first | ((with_reducible show Js 81);refine wpList_store_new rfl 81 _ _ rfl rfl (by first | rfl | simp) rfl agg_span (rfl) rfl (by simp [one_int]) ?_))
     exact ⟨keepsFrom_ext hxu,Hard.of_ext hxu (by omega),⟨HJ.out.alloc _ q1,q2.trans (Hard.of_ext hxu (by omega)),q3.ext hxu,q4.ext hxu,q5.ext hxu,by simp;omega⟩,Wx.heap.size,sp,rfl,hbu,rfl⟩
    case body =>
     rintro l' m pre' x aM Wx ⟨⟨q1,q2,q3,q4,q5,q6⟩,U,sp,rfl,hU,rfl⟩ ⟨post',hxp⟩ hsz
     obtain ⟨post,hpo⟩:∃ post,pe.map Span.cells=((pre k).map Span.cells++pre')++sp.cells::post:=⟨post'++post.map Span.cells,by rw [HPO2.out,HPS2.out,List.map_append,List.map_append,hxp];simp⟩
     refine wpIn_block ?_
     refine wpIn_seq ?_
     refine regionIn_list (F:=FW (some l')) ?_
     refine listIn_op rfl rfl fun K hK=>?_
     have y0:Wx.cell? ⟨W.heap.size,0,none⟩=some (.func (.yield l) #[] #[]):=by rw [q5.cell];rfl
     go_simp
     refine hK _ _ ?_
     clear hK y0
     refine listIn_op rfl rfl fun K hK=>?_
     refine op_load_has 81 _ rfl rfl hU.has agg_span rfl ?_
     refine hK _ _ ?_
     clear hK
     refine listIn_yield rfl _ _ _ rfl rfl rfl (HY.out _ sp.cells Wx q1 ⟨post,hpo⟩ (by omega)) ?_
     rintro W3 ⟨hJ3,hH3,hK3⟩
     refine listIn_op rfl rfl fun K hK=>?_
     go_simp
     refine hK _ _ ?_
     clear hK
     unfold wpListIn
     have hres:KeepsFrom w6.heap.size Wx W3/\Hard n0 Wx W3/\(J ((pre k).map Span.cells++(pre'++[sp.cells])) W3/\Hard n0 W W3/\Marks W.heap.size ds W3/\Blk W3 D #[.slice a' ls.length cap',pv,cv] 26/\Blk W3 W.heap.size #[.func (.yield l) #[] #[]] 122/\W.heap.size<W3.heap.size) :=
      ⟨keepsFrom_up hK3 (by omega),hH3,by simpa using hJ3,q2.trans hH3,q3.keeps hK3,hH3.blk q4 (by decide),hH3.blk q5 (by decide),by have:=hH3.below.size;omega⟩
     have HRES:=Jh hres
     clear hres
     show Code.wpIn _ _ _ _ _ _ _
     refine wpIn_cond_false rfl ?_
     refine wpIn_skip ?_
     exact HRES.out
    case done =>
     rintro M Wx hM ⟨q1,q2,q3,q4,q5,q6⟩ hh hdef
     go_wp2_with fail
     have hq1:J ((pre (k+1)).map Span.cells) Wx:=by rw [HPS2.out,List.map_append];exact q1
     exact ⟨⟨k+1,_,_,_,_,_,_,_,_,_,_,_,_,_,_,markOf M::ds,rfl,by omega,hq1,q2,q3.cons HLT6.out hM (by omega) hdef,q4,q5,q6⟩,by simp [intOf];omega⟩
   ·obtain rfl:k=e.l.length:=by omega
    go_wp2_with fail
    refine leaves_marks (B:=W.heap.size) (fun _ Wx=>J (pe.map Span.cells) Wx/\Hard n0 W Wx/\W.heap.size<Wx.heap.size) (fun s A B row hs hg hr=>⟨HJ.out _ A B row hs.1 hg hr,own_hard hs.2.1 hnW (by have:=hs.2.2;omega) hg hr,own_size hs.2.2 hg⟩) ?_ ds wr HMK.out ⟨by rw [<-HPL.out];exact HJK.out,HHK.out,hsk⟩
    rintro Wx ⟨q1,q2,q3⟩
    exact ⟨.tuple #[],by simp [results,Tryz.results67,go_sem],⟨_,rfl⟩,by rw [hpe];exact q1,q2⟩
theorem parts1_seq (ls:List Signal) (hls:∀ x∈ls,1<=x.w/\x.w<=64) (e:E):PartsOk ls e:=by
 induction e using E.ind with
 | h e ih=>exact parts1_step ls hls e ih
end Go.Proofs.YtpngepnfinbaoaaGreat
