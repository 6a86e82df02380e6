/- Laws and walks that a claim of this seat leans on: Parts. -/
import Derived.Test.YtbliplladmamoaaGreatS04
import Derived.Test.YtbliplladmamoaaGreatS03
import Derived.Test.YtbliplladmamoaaGreatS05
import Derived.Shelf.RegionOpen
import Derived.Test.YtbliplladmamoaaGreatS00
set_option maxRecDepth 100000
set_option maxHeartbeats 8000000
set_option linter.all false
namespace Go.Proofs.YtbliplladmamoaaGreat
open Go.RowKit
/-! ### the bits that an expression reads -/
structure Cb where
 sig:Int
 hi:Int
 lo:Int
abbrev Cb.cells (x:Cb):List Value:=[.int .i64 x.sig,.int .i64 x.hi,.int .i64 x.lo]
theorem Ha:Agg Tryz.prog 70 3:=by unfold Agg;exact ⟨by kernel_rfl,by kernel_rfl⟩
def G2 (ls:List Ai) (op sig hi lo:Int):List Cb:=if op=2 then [⟨sig,hi,lo⟩] else if op=3 then [⟨sig,Dn ls sig-1,0⟩] else []
def Cg (ls:List Ai):E->List Cb
 | ⟨op,_,_,sig,hi,lo,_,l⟩=>G2 ls op sig hi lo++partsL l
where partsL:List E->List Cb
 | []=>[]
 | e::l=>Cg ls e++partsL l
theorem Hs (ls:List Ai) (e:E):Cg ls e=G2 ls e.op e.sig e.hi e.lo++(e.l.map (Cg ls)).flatten:=by
 have h:∀ l,Cg.partsL ls l=(l.map (Cg ls)).flatten:=by
  intro l;induction l with
  | nil=>rfl
  | cons x l ih=>simp [Cg.partsL,ih]
 cases e;simp [Cg,h]
def Lh (ls:List Ai):E->Prop
 | ⟨op,_,_,sig,_,_,_,l⟩=>(op=3->0<=sig/\sig<ls.length)/\oks l
where oks:List E->Prop
 | []=>True
 | e::l=>Lh ls e/\oks l
theorem Sy (ls:List Ai) (e:E):Lh ls e↔(e.op=3->0<=e.sig/\e.sig<ls.length)/\∀ x∈e.l,Lh ls x:=by
 have h:∀ l,Lh.oks ls l↔∀ e∈l,Lh ls e:=by
  intro l;induction l with
  | nil=>simp [Lh.oks]
  | cons x l ih=>simp [Lh.oks,ih]
 cases e;simp [Lh,h]
theorem Rf (ls:List Ai) (e:E) (he:A7 ls e=true):Lh ls e:=by
 induction e using E.ind with
 | h e ih =>
  rw [Fu,Bool.and_eq_true,List.all_eq_true] at he
  refine (Sy ls e).2 ⟨fun h3=>?_,fun x hx=>ih x hx (he.2 x hx)⟩
  have h0:=he.1
  rw [h3] at h0
  simp [Bl] at h0
  omega
theorem Ly (v:Value) (sv pv cv:Value) (hv:v=.agg #[sv,pv,cv]) (h1:[sv,pv,cv].all (·.oneCell')=true) (x:E) (s:Value) (hs:s.oneCell'=true) (w:World) :
  Calls Tryz.prog 29 #[v,.agg (x.cells s).toArray] w fun r w'=>∃ Eb Db,Eb=w.heap.size+1/\Db=w.heap.size/\r=.returned (.func (.func 45) #[] #[.pointer (some ⟨Eb,0,none⟩),.pointer (some ⟨Db,0,none⟩)]) /\
   w'=(w.alloc (.cells [sv,pv,cv].toArray 26)).alloc (.cells (x.cells s).toArray 40):=by
 subst hv
 go_enter Tryz.func29,Tryz.ntmps29
 go_wp2_with fail
 go_ret
 exact ⟨_,_,rfl,rfl,rfl,rfl⟩
theorem Ks:Bj Tryz.prog 45:=A9 Tryz.func45 (by kernel_rfl) rfl
def Uv (ls:List Ai) (e:E):Prop:=∀ (n0:Nat) (wb w:World) (sv pv cv s:Value) (D Eb:Nat),Cq wb sv ls->Es wb s e.l->[sv,pv,cv].all (·.oneCell')=true->wb.heap.size<=n0->Ext wb w->Blk w D #[sv,pv,cv] 26->Blk w Eb (e.cells s).toArray 40 ->
 n0<=w.heap.size->Lh ls e->Seq Tryz.prog n0 45 #[.pointer (some ⟨Eb,0,none⟩),.pointer (some ⟨D,0,none⟩)] ((Cg ls e).map Cb.cells) w
theorem Yt (ls:List Ai) (cy:∀ x∈ls,1<=x.w/\x.w<=64) (e:E) (ih:∀ x∈e.l,Uv ls x):Uv ls e:=by
 intro n0 wb w sv pv cv s D Eb hS cd h3 ai ed hD hE eq ci l J W bj c1 ep hJ hY d0
 have IH:=Jh ih
 have dm:=Jh cy
 have HS:=Jh hS
 have H3:=Jh h3
 obtain ⟨ee,c8⟩:=(Sy ls e).1 ci
 have dl:=Jh c8
 obtain ⟨a',b',o',j,d7,ef,eg,c3,c5⟩:=hS.open
 obtain ⟨ae,be,oe,aq,eb,ei,ej,cr,ct⟩:=cd.open
 subst d7
 subst eb
 have dr:=Jh c3
 have dt:=Jh c5
 have di:=Jh cr
 have dj:=Jh ct
 have HY:=Jh hY
 have HJ:=Jh hJ
 have az:=Jh (bj.ext ed ai)
 have ca:=bj.blk hD (by decide)
 have cc:=bj.blk hE (by decide)
 obtain ⟨ab,aw,ak,aj⟩:∃ ab:Nat->List Cb,ab 0=G2 ls e.op e.sig e.hi e.lo/\(∀ k (hk:k<e.l.length),ab (k+1)=ab k++Cg ls e.l[k])/\ab e.l.length=Cg ls e :=
  ⟨fun k=>G2 ls e.op e.sig e.hi e.lo++((e.l.take k).map (Cg ls)).flatten,by simp only [List.take_zero,List.map_nil,List.flatten_nil,List.append_nil],fun k hk=>by simp only [Ba _ _ hk,List.map_append,List.flatten_append,List.map_cons,List.map_nil,List.flatten_cons,List.flatten_nil,List.append_nil,List.append_assoc],by simp only [List.take_length];rw [Hs ls e]⟩
 have av:∀ k,k<=e.l.length->∃ aa,Cg ls e=ab k++aa:=by
  have hm:∀ m k,k+m=e.l.length->∃ aa,Cg ls e=ab k++aa:=by
   intro m
   induction m with
   | zero=>intro k hk;exact ⟨[],by rw [<-aj,<-hk];simp⟩
   | succ m ih =>
    intro k hk
    obtain ⟨aa,hp⟩:=ih (k+1) (by omega)
    exact ⟨_,by rw [hp,ak k (by omega),List.append_assoc]⟩
  exact fun k hk=>hm (e.l.length-k) k (by omega)
 have dn:=Jh aj
 have b1:=Jh aw
 have dq:=Jh ak
 have dp:=Jh av
 clear ih cy hS h3 ci c8 c3 c5 cr ct cd hY hJ aw ak aj av hD hE
 have hX:=Ab W (.cells #[.func (.yield l) #[] #[]] 88)
 have cq:=Blk.new W #[.func (.yield l) #[] #[]] 88
 have a8:=Jh cq
 have bu:=Jh (ca.ext hX)
 have al:=Jh (cc.ext hX)
 have bk:=HJ.out.alloc (.cells #[.func (.yield l) #[] #[]] 88) d0
 have ea:(W.alloc (.cells #[.func (.yield l) #[] #[]] 88)).heap.size=W.heap.size+1:=by simp
 have cf:=Be.of_ext hX c1
 clear cq ca cc
 refine callsIn_wide.1 (callsIn_of_wp_marks (n:=0) Tryz.func45 rfl trivial ?_);rw [wpIn_wide];simp only [Tryz.ntmps45,List.size_toArray,List.length_cons,List.length_nil,Nat.reduceAdd,Nat.reduceSub,Array.replicate_succ,Array.replicate_zero,List.push_toArray,List.append_toArray,List.nil_append,List.cons_append]
 let eo:=bodyPost Tryz.prog Tryz.f45
 go_upto_region 1 with fail
 generalize W.alloc _=wY at *
 have g0:=al.out.has 0 _ rfl
 have y0:wY.cell? ⟨W.heap.size,0,none⟩=some (.func (.yield l) #[] #[]):=by rw [a8.out.cell];rfl
 go_cut [7] (fun u wr=>u=.bool false/\J (if e.op=2 then [Cb.cells ⟨e.sig,e.hi,e.lo⟩] else []) wr/\Be n0 wY wr)
 case first =>
  rename_i cJ cK hcJ hcK
  by_cases o2:e.op=2
  ·have b2:(e.op==2)=true:=by rw [beq_iff_eq];exact o2
   have bg:=Jh o2
   have g3:=al.out.has 3 _ rfl
   have g4:=al.out.has 4 _ rfl
   have g5:=al.out.has 5 _ rfl
   have hp:Cg ls e=⟨e.sig,e.hi,e.lo⟩::(e.l.map (Cg ls)).flatten:=by rw [Hs];simp [G2,o2]
   have c7:=HY.out [] (Cb.cells ⟨e.sig,e.hi,e.lo⟩) wY bk ⟨_,by rw [hp];rfl⟩ (by omega)
   have dy:=Jh c7
   clear o2 hp c7
   refine Oq ?_
   iterate 12 (refine Dy rfl rfl fun K hK=>?_;go_simp;refine hK _ _ ?_;clear hK)
   refine Hn rfl _ _ _ rfl rfl rfl (dy.out) ?_
   rintro w5 ⟨d1,dh,en⟩
   iterate 3 (refine Dy rfl rfl fun K hK=>?_;go_simp;refine hK _ _ ?_;clear hK)
   unfold wpListIn
   refine hcK _ _ (Met.intro (hcJ _ _ ?_))
   (repeat apply Exists.intro)
   refine ⟨?rel,rfl⟩
   exact ⟨rfl,by rw [if_pos bg.out];exact d1,dh⟩
  ·have b2:(e.op==2)=false:=by rw [beq_eq_false_iff_ne];exact o2
   have bg:=Jh o2
   clear o2
   go_wp2_with fail
   go_meet
   exact ⟨rfl,by rw [if_neg bg.out];exact bk,Be.refl _ _⟩
 case rest =>
  obtain ⟨rfl,au,am⟩:=hcut
  have ba:=Jh (am.blk al.out (by decide))
  have a9:=Jh (am.blk bu.out (by decide))
  have bi:=Jh (am.blk a8.out (by decide))
  have bc:=Jh (cf.trans am)
  have b7:=Jh (bc.out.ext az.out ai)
  have ch:W.heap.size<wc.heap.size:=by have:=am.below.size;omega
  clear y0 g0 bk cf am ea
  go_upto_region 2 with fail
  go_cut [23] (fun u wr=>u=.bool false/\J ((ab 0).map Cb.cells) wr/\Be n0 wc wr)
  case first =>
   rename_i cJ cK hcJ hcK
   refine Pf (S:=fun W3=>Blk W3 Eb (e.cells (.slice ae e.l.length aq)).toArray 40/\Blk W3 D #[.slice a' ls.length j,pv,cv] 26/\Blk W3 W.heap.size #[.func (.yield l) #[] #[]] 88/\Ext wb W3) (by kernel_rfl)
    ⟨ba.out.drew,a9.out.drew,bi.out.drew,b7.out.drew⟩ (fun hH=>?_)
   by_cases o3:e.op=3
   ·have b3:(e.op==3)=true:=by rw [beq_iff_eq];exact o3
    obtain ⟨i1,i2⟩:=ee o3
    obtain ⟨k,hk⟩:∃ k:Nat,e.sig=k:=⟨e.sig.toNat,by omega⟩
    have ag:k<ls.length:=by omega
    obtain rfl:=dr.out (by omega)
    have c4:∀ W3,Ext wb W3->W3.cell? ⟨b',o'+k*4+1,Option.none⟩=some (.int .i64 ls[k].w):=fun W3 hx=>(Cq.get (dt.out.mono fun x _ b o h=>C6.ext' hx h) ag) 1 _ rfl
    have es:=dm.out _ (List.getElem_mem ag)
    have er:IntKind.i64.wrap (ls[k].w-1)=ls[k].w-1:=by rw [IntKind.wrap_i64];omega
    have c6:Dn ls e.sig=ls[k].w:=by simp [Dn,hk,List.getElem?_eq_getElem ag]
    (refine Cx.take (i:=0) (v:=_) rfl (by kernel_rfl) (by kernel_rfl) (by kernel_rfl) (fun _ _ _ h=>h) (yif_load1 rfl fun _ _=>rfl) hH ?_;try simp only [Act.put,Jd,Jc,Jb,Ja,Je,Jf])
    (refine Cx.take (i:=1) (v:=.int .i64 e.op) rfl (by kernel_rfl) (by kernel_rfl) (by kernel_rfl) (fun _ _ _ h=>h) (yif_load1 rfl (by intro W3 hW;have hw:=hW.1.has 0 _ rfl;clear hW;go_simp)) hH ?_;try simp only [Act.put,Jd,Jc,Jb,Ja,Je,Jf])
    (refine Cx.take (i:=2) (v:=.bool true) rfl (by kernel_rfl) (by kernel_rfl) (by kernel_rfl) (fun _ _ _ h=>h) (yif_load1 rfl (by intro W3 hW;clear hW;go_simp)) hH ?_;try simp only [Act.put,Jd,Jc,Jb,Ja,Je,Jf])
    (refine Cx.take (i:=3) (v:=_) rfl (by kernel_rfl) (by kernel_rfl) (by kernel_rfl) (fun _ _ _ h=>h) (yif_load1 rfl fun _ _=>rfl) hH ?_;try simp only [Act.put,Jd,Jc,Jb,Ja,Je,Jf])
    (refine Cx.take (i:=4) (v:=.func (.yield l) #[] #[]) rfl (by kernel_rfl) (by kernel_rfl) (by kernel_rfl) (fun _ _ _ h=>h) (yif_load1 rfl (by intro W3 hW;have hw:W3.cell? ⟨W.heap.size,0,none⟩=some (.func (.yield l) #[] #[]):=by { rw [hW.2.2.1.cell];rfl };clear hW;go_simp)) hH ?_;try simp only [Act.put,Jd,Jc,Jb,Ja,Je,Jf])
    (refine Cx.take (i:=5) (v:=_) rfl (by kernel_rfl) (by kernel_rfl) (by kernel_rfl) (fun _ _ _ h=>h) (yif_load1 rfl fun _ _=>rfl) hH ?_;try simp only [Act.put,Jd,Jc,Jb,Ja,Je,Jf])
    (refine Cx.take (i:=6) (v:=.int .i64 k) rfl (by kernel_rfl) (by kernel_rfl) (by kernel_rfl) (fun _ _ _ h=>h) (yif_load1 rfl (by intro W3 hW;have hw:=hW.1.has 3 _ rfl;rw [hk] at hw;clear hW;go_simp)) hH ?_;try simp only [Act.put,Jd,Jc,Jb,Ja,Je,Jf])
    (refine Cx.take (i:=7) (v:=_) rfl (by kernel_rfl) (by kernel_rfl) (by kernel_rfl) (fun _ _ _ h=>h) (yif_load1 rfl fun _ _=>rfl) hH ?_;try simp only [Act.put,Jd,Jc,Jb,Ja,Je,Jf])
    (refine Cx.take (i:=8) (v:=.slice (some ⟨b',o',Option.none⟩) ls.length j) rfl (by kernel_rfl) (by kernel_rfl) (by kernel_rfl) (fun _ _ _ h=>h) (yif_load1 rfl (by intro W3 hW;have hw:=hW.2.1.has 0 _ rfl;clear hW;go_simp)) hH ?_;try simp only [Act.put,Jd,Jc,Jb,Ja,Je,Jf])
    (refine Cx.take (i:=9) (v:=_) rfl (by kernel_rfl) (by kernel_rfl) (by kernel_rfl) (fun _ _ _ h=>h) (yif_load1 rfl fun _ _=>rfl) hH ?_;try simp only [Act.put,Jd,Jc,Jb,Ja,Je,Jf])
    (refine Cx.take (i:=10) (v:=.int .i64 k) rfl (by kernel_rfl) (by kernel_rfl) (by kernel_rfl) (fun _ _ _ h=>h) (yif_load1 rfl (by intro W3 hW;have hw:=hW.1.has 3 _ rfl;rw [hk] at hw;clear hW;go_simp)) hH ?_;try simp only [Act.put,Jd,Jc,Jb,Ja,Je,Jf])
    (refine Cx.take (i:=11) (v:=.pointer (some ⟨b',o'+k*4,Option.none⟩)) rfl (by kernel_rfl) (by kernel_rfl) (by kernel_rfl) (fun _ _ _ h=>h) (yif_load1 rfl (by intro W3 hW;clear hW;go_simp)) hH ?_;try simp only [Act.put,Jd,Jc,Jb,Ja,Je,Jf])
    (refine Cx.take (i:=12) (v:=.pointer (some ⟨b',o'+k*4+1,Option.none⟩)) rfl (by kernel_rfl) (by kernel_rfl) (by kernel_rfl) (fun _ _ _ h=>h) (yif_load1 rfl fun _ _=>rfl) hH ?_;try simp only [Act.put,Jd,Jc,Jb,Ja,Je,Jf])
    (refine Cx.take (i:=13) (v:=.int .i64 ls[k].w) rfl (by kernel_rfl) (by kernel_rfl) (by kernel_rfl) (fun _ _ _ h=>h) (yif_load1 rfl (by intro W3 hW;have hw:=c4 W3 hW.2.2.2;clear hW;go_simp)) hH ?_;try simp only [Act.put,Jd,Jc,Jb,Ja,Je,Jf])
    (refine Cx.take (i:=14) (v:=.int .i64 (ls[k].w-1)) rfl (by kernel_rfl) (by kernel_rfl) (by kernel_rfl) (fun _ _ _ h=>h) (yif_load1 rfl (by intro W3 hW;clear hW;go_simp)) hH ?_;try simp only [Act.put,Jd,Jc,Jb,Ja,Je,Jf])
    (refine Cx.take (i:=15) (v:=.agg (Cb.cells ⟨k,ls[k].w-1,0⟩).toArray) rfl (by kernel_rfl) (by kernel_rfl) (by kernel_rfl) (fun _ _ _ h=>h) (yif_load1 rfl (by intro W3 hW;clear hW;go_simp)) hH ?_;try simp only [Act.put,Jd,Jc,Jb,Ja,Je,Jf])
    have hp:Cg ls e=⟨k,ls[k].w-1,0⟩::(e.l.map (Cg ls)).flatten:=by rw [Hs];simp [G2,o3,hk,<-c6]
    have an:J [] wc.drew:=HJ.out [] wc wc.drew Option.none (by rw [if_neg (by omega)] at au;exact au) ⟨rfl,rfl,rfl,Nat.le_refl _,fun _ _ _=>rfl⟩ (fun r e=>by cases e)
    refine Cx.yield (i:=16) (by kernel_rfl) rfl rfl _ _ _ rfl rfl rfl (HY.out [] (Cb.cells ⟨k,ls[k].w-1,0⟩) wc.drew an ⟨_,by rw [hp];rfl⟩ (Nat.le_of_lt ch)) ?_
    rintro W4 ⟨bl,ar,em⟩
    replace hH:=And.intro (ar.blk hH.1 (by decide)) (And.intro (ar.blk hH.2.1 (by decide)) (And.intro (ar.blk hH.2.2.1 (by decide)) (ar.ext hH.2.2.2 ai)))
    refine ⟨hH,?_⟩
    simp only [Act.put,Jd,Jc,Jb,Ja,Je,Jf]
    (refine Cx.take (i:=17) (v:=.bool false) rfl (by kernel_rfl) (by kernel_rfl) (by kernel_rfl) (fun _ _ _ h=>h) (yif_load1 rfl fun _ _=>rfl) hH ?_;try simp only [Act.put,Jd,Jc,Jb,Ja,Je,Jf])
    (refine Cx.take (i:=18) (v:=.bool false) rfl (by kernel_rfl) (by kernel_rfl) (by kernel_rfl) (fun _ _ _ h=>h) (yif_load1 rfl (by intro W3 hW;clear hW;go_simp)) hH ?_;try simp only [Act.put,Jd,Jc,Jb,Ja,Je,Jf])
    (refine Cx.take (i:=19) (v:=.bool false) rfl (by kernel_rfl) (by kernel_rfl) (by kernel_rfl) (fun _ _ _ h=>h) (yif_load1 rfl (by intro W3 hW;clear hW;go_simp)) hH ?_;try simp only [Act.put,Jd,Jc,Jb,Ja,Je,Jf])
    refine Cx.done (by kernel_rfl) ?_ _
    refine hcK _ _ (Met.intro (hcJ _ _ ?_))
    (repeat apply Exists.intro)
    refine ⟨?rel2,rfl⟩
    refine ⟨rfl,?_,(Be.drew _).trans ar⟩
    rw [b1.out]
    simpa [G2,o3,hk,<-c6] using bl
   ·have b3:(e.op==3)=false:=by rw [beq_eq_false_iff_ne];exact o3
    (refine Cx.take (i:=0) (v:=_) rfl (by kernel_rfl) (by kernel_rfl) (by kernel_rfl) (fun _ _ _ h=>h) (yif_load1 rfl fun _ _=>rfl) hH ?_;try simp only [Act.put,Jd,Jc,Jb,Ja,Je,Jf])
    (refine Cx.take (i:=1) (v:=.int .i64 e.op) rfl (by kernel_rfl) (by kernel_rfl) (by kernel_rfl) (fun _ _ _ h=>h) (yif_load1 rfl (by intro W3 hW;have hw:=hW.1.has 0 _ rfl;clear hW;go_simp)) hH ?_;try simp only [Act.put,Jd,Jc,Jb,Ja,Je,Jf])
    (refine Cx.take (i:=2) (v:=.bool false) rfl (by kernel_rfl) (by kernel_rfl) (by kernel_rfl) (fun _ _ _ h=>h) (yif_load1 rfl (by intro W3 hW;clear hW;go_simp)) hH ?_;try simp only [Act.put,Jd,Jc,Jb,Ja,Je,Jf])
    (refine Cx.take (i:=3) (v:=_) rfl (by kernel_rfl) (by kernel_rfl) (by kernel_rfl) (fun _ _ _ h=>h) (yif_load1 rfl fun _ _=>rfl) hH ?_;try simp only [Act.put,Jd,Jc,Jb,Ja,Je,Jf])
    (refine Cx.take (i:=4) (v:=undef) rfl (by kernel_rfl) (by kernel_rfl) (by kernel_rfl) (fun _ _ _ h=>h) (Or.inr ⟨rfl,rfl⟩) hH ?_;try simp only [Act.put,Jd,Jc,Jb,Ja,Je,Jf])
    (refine Cx.take (i:=5) (v:=undef) rfl (by kernel_rfl) (by kernel_rfl) (by kernel_rfl) (fun _ _ _ h=>h) (Or.inr ⟨rfl,rfl⟩) hH ?_;try simp only [Act.put,Jd,Jc,Jb,Ja,Je,Jf])
    (refine Cx.take (i:=6) (v:=undef) rfl (by kernel_rfl) (by kernel_rfl) (by kernel_rfl) (fun _ _ _ h=>h) (Or.inr ⟨rfl,rfl⟩) hH ?_;try simp only [Act.put,Jd,Jc,Jb,Ja,Je,Jf])
    (refine Cx.take (i:=7) (v:=undef) rfl (by kernel_rfl) (by kernel_rfl) (by kernel_rfl) (fun _ _ _ h=>h) (Or.inr ⟨rfl,rfl⟩) hH ?_;try simp only [Act.put,Jd,Jc,Jb,Ja,Je,Jf])
    (refine Cx.take (i:=8) (v:=undef) rfl (by kernel_rfl) (by kernel_rfl) (by kernel_rfl) (fun _ _ _ h=>h) (Or.inr ⟨rfl,rfl⟩) hH ?_;try simp only [Act.put,Jd,Jc,Jb,Ja,Je,Jf])
    (refine Cx.take (i:=9) (v:=undef) rfl (by kernel_rfl) (by kernel_rfl) (by kernel_rfl) (fun _ _ _ h=>h) (Or.inr ⟨rfl,rfl⟩) hH ?_;try simp only [Act.put,Jd,Jc,Jb,Ja,Je,Jf])
    (refine Cx.take (i:=10) (v:=undef) rfl (by kernel_rfl) (by kernel_rfl) (by kernel_rfl) (fun _ _ _ h=>h) (Or.inr ⟨rfl,rfl⟩) hH ?_;try simp only [Act.put,Jd,Jc,Jb,Ja,Je,Jf])
    (refine Cx.take (i:=11) (v:=undef) rfl (by kernel_rfl) (by kernel_rfl) (by kernel_rfl) (fun _ _ _ h=>h) (Or.inr ⟨rfl,rfl⟩) hH ?_;try simp only [Act.put,Jd,Jc,Jb,Ja,Je,Jf])
    (refine Cx.take (i:=12) (v:=undef) rfl (by kernel_rfl) (by kernel_rfl) (by kernel_rfl) (fun _ _ _ h=>h) (Or.inr ⟨rfl,rfl⟩) hH ?_;try simp only [Act.put,Jd,Jc,Jb,Ja,Je,Jf])
    (refine Cx.take (i:=13) (v:=undef) rfl (by kernel_rfl) (by kernel_rfl) (by kernel_rfl) (fun _ _ _ h=>h) (Or.inr ⟨rfl,rfl⟩) hH ?_;try simp only [Act.put,Jd,Jc,Jb,Ja,Je,Jf])
    (refine Cx.take (i:=14) (v:=undef) rfl (by kernel_rfl) (by kernel_rfl) (by kernel_rfl) (fun _ _ _ h=>h) (Or.inr ⟨rfl,rfl⟩) hH ?_;try simp only [Act.put,Jd,Jc,Jb,Ja,Je,Jf])
    (refine Cx.take (i:=15) (v:=undef) rfl (by kernel_rfl) (by kernel_rfl) (by kernel_rfl) (fun _ _ _ h=>h) (Or.inr ⟨rfl,rfl⟩) hH ?_;try simp only [Act.put,Jd,Jc,Jb,Ja,Je,Jf])
    (refine Cx.take (i:=16) (v:=undef) rfl (by kernel_rfl) (by kernel_rfl) (by kernel_rfl) (fun _ _ _ h=>h) (Or.inr ⟨rfl,rfl⟩) hH ?_;try simp only [Act.put,Jd,Jc,Jb,Ja,Je,Jf])
    (refine Cx.take (i:=17) (v:=undef) rfl (by kernel_rfl) (by kernel_rfl) (by kernel_rfl) (fun _ _ _ h=>h) (Or.inr ⟨rfl,rfl⟩) hH ?_;try simp only [Act.put,Jd,Jc,Jb,Ja,Je,Jf])
    (refine Cx.take (i:=18) (v:=.bool false) rfl (by kernel_rfl) (by kernel_rfl) (by kernel_rfl) (fun _ _ _ h=>h) (yif_load1 rfl (by intro W3 hW;clear hW;go_simp)) hH ?_;try simp only [Act.put,Jd,Jc,Jb,Ja,Je,Jf])
    (refine Cx.take (i:=19) (v:=.bool false) rfl (by kernel_rfl) (by kernel_rfl) (by kernel_rfl) (fun _ _ _ h=>h) (yif_load1 rfl (by intro W3 hW;clear hW;go_simp)) hH ?_;try simp only [Act.put,Jd,Jc,Jb,Ja,Je,Jf])
    refine Cx.done (by kernel_rfl) ?_ _
    refine hcK _ _ (Met.intro (hcJ _ _ ?_))
    (repeat apply Exists.intro)
    refine ⟨?rel3,rfl⟩
    refine ⟨rfl,?_,Be.drew _⟩
    rw [b1.out]
    refine HJ.out _ wc wc.drew Option.none ?_ ⟨rfl,rfl,rfl,Nat.le_refl _,fun _ _ _=>rfl⟩ (fun r e=>by cases e)
    by_cases o2:e.op=2
    ·simpa [G2,o2] using au
    ·simpa [G2,o2,o3] using au
  case rest =>
   obtain ⟨rfl,an,af⟩:=hcut
   have bw:=Jh (af.blk ba.out (by decide))
   have bv:=Jh (af.blk a9.out (by decide))
   have b8:=Jh (af.blk bi.out (by decide))
   have bd:=Jh (bc.out.trans af)
   have du:=Jh (bd.out.ext az.out ai)
   have c0:W.heap.size<wc.heap.size:=by have:=af.below.size;omega
   generalize hpe:Cg ls e=pe at *
   have g7:=bw.out.has 7 _ rfl
   clear au bc b7 ch af ba a9 bi al bu a8
   go_wp2_with fail
   refine wp_loop (fun a wr=>∃ (k:Nat) (x5 x6 c9 da db dc dd de df bp bq br bs bt:Value) (ds:List Deferred),a=⟨#[.func (.yield l) #[] #[],.pointer (some ⟨Eb,0,Option.none⟩),.pointer (some ⟨D,0,Option.none⟩),.pointer (some ⟨W.heap.size,0,Option.none⟩),undef,x5,x6,.bool false,u8,u9,u10,u11,u12,u13,u14,u15,u16,u17,u18,u19,u20,u21,u22,.bool false,u24,u25,u26,u27,u28,u29,u30,u31,u32,u33,u34,u35,u36,u37,u38,u39,u40,u41,u42,.pointer (some ⟨Eb,7,Option.none⟩),.slice ae e.l.length aq,.int .i64 e.l.length,.int .i64 k,c9,da,db,dc,dd,de,df,bp,bq,br,bs,bt],ds⟩ /\
    k<=e.l.length/\J ((ab k).map Cb.cells) wr/\Be n0 W wr/\C2 W.heap.size ds wr/\Blk wr D #[.slice a' ls.length j,pv,cv] 26/\Blk wr W.heap.size #[.func (.yield l) #[] #[]] 88/\W.heap.size<wr.heap.size) (fun a _=>e.l.length-(intOf (a.tmps.getD 46 undef)).toNat)
    ⟨0,_,_,_,_,_,_,_,_,_,_,_,_,_,_,[],rfl,Nat.zero_le _,an,bd.out,C2.nil _ _,bv.out,b8.out,c0⟩ ?_
   clear an bw bv b8 bd du c0 g7
   rintro a wr ⟨k,x5,x6,c9,da,db,dc,dd,de,df,bp,bq,br,bs,bt,ds,rfl,hk,cj,cg,cn,cb,co,ec⟩
   have bh:=Jh cj
   have bf:=Jh cg
   have b0:=Jh cn
   have dx:=Jh co
   have dg:=Jh cb
   clear cj cg cn co cb
   have dw:=Jh (bf.out.ext az.out ai)
   by_cases ag:k<e.l.length
   ·obtain ⟨s1,a5,cu⟩:=Es.get dj.out ag
    obtain rfl:=di.out (by omega)
    obtain ⟨aa,ah⟩:=dp.out (k+1) ag
    have c2:=dq.out k ag
    have cw:=IH.out _ (List.getElem_mem ag)
    have cx:=dl.out _ (List.getElem_mem ag)
    generalize e.l[k]=ek at *
    have a2:=Jh c2
    have b4:=Jh ah
    have bx:=Jh cw
    have bz:=Jh cx
    have bb:=Jh cu
    have dk:=Jh (a5.ext dw.out)
    clear c2 ah cw cx cu a5
    have a0:=Ab wr (.cells (ek.cells s1).toArray 40)
    have d4:=Blk.new wr (ek.cells s1).toArray 40
    have bl:=HJ.out.alloc (.cells (ek.cells s1).toArray 40) bh.out
    have d8:(wr.alloc (.cells (ek.cells s1).toArray 40)).heap.size=wr.heap.size+1:=by simp
    have b9:=dg.out.ext a0
    go_upto_region 6 with (first | ((with_reducible show Jl 40);refine Aa rfl 40 _ rfl rfl (dk.out) Ah rfl ?_) | ((with_reducible show Js 40);refine Ad rfl 40 _ _ rfl rfl (by first | rfl | simp) rfl Ah (rfl) rfl (by simp [bb.out.one,Bc]) ?_))
    generalize wr.alloc _=w4 at *
    go_wp2_with (first | ((with_reducible show Jl 26);refine Aa rfl 26 _ rfl rfl (b9.has) Aj rfl ?_) | ((with_reducible show Jl 40);refine Aa rfl 40 _ rfl rfl (d4.has) Ah rfl ?_) | (go_at_call 29;refine (Ly _ _ _ _ rfl (by simpa using H3.out) ek s1 bb.out.one _).mono ?_;rintro r w6 ⟨E6,D6,a4,a3,rfl,rfl⟩))
    have a1:=(Ab w4 (.cells #[.slice a' ls.length j,pv,cv] 26)).trans (Ab _ (.cells (ek.cells s1).toArray 40))
    have cp:=(Blk.new w4 #[.slice a' ls.length j,pv,cv] 26).ext (Ab _ (.cells (ek.cells s1).toArray 40))
    have bm:=Blk.new (w4.alloc (.cells #[.slice a' ls.length j,pv,cv] 26)) (ek.cells s1).toArray 40
    have d2:=HJ.out.alloc (.cells (ek.cells s1).toArray 40) (HJ.out.alloc (.cells #[.slice a' ls.length j,pv,cv] 26) bl)
    have d9:((w4.alloc (.cells #[.slice a' ls.length j,pv,cv] 26)).alloc (.cells (ek.cells s1).toArray 40)).heap.size=w4.heap.size+2:=by simp
    rw [show (w4.alloc (.cells #[.slice a' ls.length j,pv,cv] 26)).heap.size=w4.heap.size+1 by simp] at bm
    have cm:=(b0.out.ext a0).ext a1
    have d3:=(dx.out.ext a0).ext a1
    have dz:=b9.ext a1
    have ce:=(bf.out.trans (Be.of_ext a0 (by omega))).trans (Be.of_ext a1 (by omega))
    rw [d8] at a4 a3 bm cp d9
    subst a4 a3
    generalize (w4.alloc _).alloc _=w6 at *
    have cz:∀ M,Gq M∈ds->M<w6.heap.size:=fun M hM=>cm.lt hM
    have ap:=Jh cz
    have dv:=Jh (ce.ext az.out ai)
    have a7:Seq Tryz.prog n0 45 #[.pointer (some ⟨wr.heap.size+1+1,0,none⟩),.pointer (some ⟨wr.heap.size+1,0,none⟩)] ((Cg ls ek).map Cb.cells) w6:=bx.out n0 wb w6 (.slice a' ls.length j) pv cv s1 (wr.heap.size+1) (wr.heap.size+1+1) HS.out bb.out H3.out ai dv.out cp bm (by omega) bz.out
    have b6:=Jh a7
    clear a7 bx bz
    generalize Cg ls ek=pk at *
    refine Mc (n0:=n0) rfl Ks b6.out rfl (by omega)
     (fun ac Wx=>J ((ab k).map Cb.cells++ac) Wx/\Be n0 W Wx/\C2 W.heap.size ds Wx/\Blk Wx D #[.slice a' ls.length j,pv,cv] 26/\Blk Wx W.heap.size #[.func (.yield l) #[] #[]] 88/\W.heap.size<Wx.heap.size)
     (fun s A B ay hs hg hr=>⟨HJ.out _ A B ay hs.1 hg (fun r e=>⟨by have:=(hr r e).1;omega,(hr r e).2⟩),Fb hs.2.1 (by omega) (by have:=hs.2.2.2.2.2;omega) hg hr,Mp hs.2.2.1 ap.out hg hr,Du hs.2.2.2.1 hg hr,Du hs.2.2.2.2.1 hg hr,Gt hs.2.2.2.2.2 hg⟩)
     ⟨by simpa using d2,ce,cm,dz,d3,by omega⟩
     (fun ac x aM Wx=>(J ((ab k).map Cb.cells++ac) Wx/\Be n0 W Wx/\C2 W.heap.size ds Wx/\Blk Wx D #[.slice a' ls.length j,pv,cv] 26/\Blk Wx W.heap.size #[.func (.yield l) #[] #[]] 88/\W.heap.size<Wx.heap.size) /\
      ∃ (U:Nat) (sp:Cb),x=sp.cells/\Blk Wx U x.toArray 70/\aM=⟨#[.func (.yield l) #[] #[],.pointer (some ⟨Eb,0,Option.none⟩),.pointer (some ⟨D,0,Option.none⟩),.pointer (some ⟨W.heap.size,0,Option.none⟩),undef,.pointer (some ⟨wr.heap.size,0,Option.none⟩),.pointer (some ⟨U,0,Option.none⟩),.bool false,u8,u9,u10,u11,u12,u13,u14,u15,u16,u17,u18,u19,u20,u21,u22,.bool false,u24,u25,u26,u27,u28,u29,u30,u31,u32,u33,u34,u35,u36,u37,u38,u39,u40,u41,u42,.pointer (some ⟨Eb,7,Option.none⟩),.slice (some ⟨be,oe,Option.none⟩) e.l.length aq,.int .i64 e.l.length,.int .i64 k,.bool true,.pointer (some ⟨be,oe+k*8,Option.none⟩),.agg (ek.cells s1).toArray,.agg #[.slice a' ls.length j,pv,cv],.agg (ek.cells s1).toArray,.func (.func 45) #[] #[.pointer (some ⟨wr.heap.size+1+1,0,Option.none⟩),.pointer (some ⟨wr.heap.size+1,0,Option.none⟩)],.agg x.toArray,bp,bq,br,bs,bt],[]⟩)
     (fun ac x aM s A B ay hs hg hr=>⟨⟨HJ.out _ A B ay hs.1.1 hg (fun r e=>⟨by have:=(hr r e).1;omega,(hr r e).2⟩),Fb hs.1.2.1 (by omega) (by have:=hs.1.2.2.2.2.2;omega) hg hr,Mp hs.1.2.2.1 ap.out hg hr,Du hs.1.2.2.2.1 hg hr,Du hs.1.2.2.2.2.1 hg hr,Gt hs.1.2.2.2.2.2 hg⟩,by
      obtain ⟨U,sp,h1,h2,h3⟩:=hs.2
      exact ⟨U,sp,h1,Du h2 hg hr,h3⟩⟩) ?assign ?body ?done
    case assign =>
     rintro l' m ac x Wx ⟨q1,q2,q3,q4,q5,q6⟩ ⟨ax,bo⟩ hsz
     obtain ⟨sp,-,rfl⟩:=List.mem_map.1 (show x∈pk.map Cb.cells by rw [bo];simp)
     refine Bu (r:=some l') (by kernel_rfl) (by rintro ⟨_,_,h⟩;exact h) ?_
     have ao:=Ab Wx (.cells sp.cells.toArray 70)
     have d5:=Blk.new Wx sp.cells.toArray 70
     go_wp2_with (first | ((with_reducible show Js 70);refine Ad rfl 70 _ _ rfl rfl (by first | rfl | simp) rfl Ha (rfl) rfl (by simp [Bc]) ?_))
     exact ⟨Bh ao,Be.of_ext ao (by omega),⟨HJ.out.alloc _ q1,q2.trans (Be.of_ext ao (by omega)),q3.ext ao,q4.ext ao,q5.ext ao,by simp;omega⟩,Wx.heap.size,sp,rfl,d5,rfl⟩
    case body =>
     rintro l' m ac x aM Wx ⟨⟨q1,q2,q3,q4,q5,q6⟩,U,sp,rfl,hU,rfl⟩ ⟨ax,bo⟩ hsz
     obtain ⟨aa,ah⟩:∃ aa,pe.map Cb.cells=((ab k).map Cb.cells++ac)++sp.cells::aa:=⟨ax++aa.map Cb.cells,by rw [b4.out,a2.out,List.map_append,List.map_append,bo];simp⟩
     refine wpIn_block ?_
     refine wpIn_seq ?_
     refine G7 (F:=FW (some l')) ?_
     refine Dy rfl rfl fun K hK=>?_
     have y0:Wx.cell? ⟨W.heap.size,0,none⟩=some (.func (.yield l) #[] #[]):=by rw [q5.cell];rfl
     go_simp
     refine hK _ _ ?_
     clear hK y0
     refine Dy rfl rfl fun K hK=>?_
     refine Lx 70 _ rfl rfl hU.has Ha rfl ?_
     refine hK _ _ ?_
     clear hK
     refine Hn rfl _ _ _ rfl rfl rfl (HY.out _ sp.cells Wx q1 ⟨aa,ah⟩ (by omega)) ?_
     rintro W3 ⟨an,af,cl⟩
     refine Dy rfl rfl fun K hK=>?_
     go_simp
     refine hK _ _ ?_
     clear hK
     unfold wpListIn
     have a6:KeepsFrom w6.heap.size Wx W3/\Be n0 Wx W3/\(J ((ab k).map Cb.cells++(ac++[sp.cells])) W3/\Be n0 W W3/\C2 W.heap.size ds W3/\Blk W3 D #[.slice a' ls.length j,pv,cv] 26/\Blk W3 W.heap.size #[.func (.yield l) #[] #[]] 88/\W.heap.size<W3.heap.size) :=
      ⟨Fy cl (by omega),af,by simpa using an,q2.trans af,q3.keeps cl,af.blk q4 (by decide),af.blk q5 (by decide),by have:=af.below.size;omega⟩
     have b5:=Jh a6
     clear a6
     show Code.wpIn _ _ _ _ _ _ _
     refine wpIn_cond_false rfl ?_
     refine wpIn_skip ?_
     exact b5.out
    case done =>
     rintro M Wx hM ⟨q1,q2,q3,q4,q5,q6⟩ hh hdef
     go_wp2_with fail
     have d6:J ((ab (k+1)).map Cb.cells) Wx:=by rw [a2.out,List.map_append];exact q1
     exact ⟨⟨k+1,_,_,_,_,_,_,_,_,_,_,_,_,_,_,Gq M::ds,rfl,by omega,d6,q2,q3.cons ap.out hM (by omega) hdef,q4,q5,q6⟩,by simp [intOf];omega⟩
   ·obtain rfl:k=e.l.length:=by omega
    go_wp2_with fail
    refine Gp (B:=W.heap.size) (fun _ Wx=>J (pe.map Cb.cells) Wx/\Be n0 W Wx/\W.heap.size<Wx.heap.size) (fun s A B ay hs hg hr=>⟨HJ.out _ A B ay hs.1 hg hr,Fb hs.2.1 c1 (by have:=hs.2.2;omega) hg hr,Gt hs.2.2 hg⟩) ?_ ds wr b0.out ⟨by rw [<-dn.out];exact bh.out,bf.out,ec⟩
    rintro Wx ⟨q1,q2,q3⟩
    exact ⟨.tuple #[],by simp [results,Tryz.results45,go_sem],⟨_,rfl⟩,by rw [hpe];exact q1,q2⟩
theorem Rl (ls:List Ai) (j:∀ x∈ls,1<=x.w/\x.w<=64) (e:E):Uv ls e:=by
 induction e using E.ind with
 | h e ih=>exact Yt ls j e ih
end Go.Proofs.YtbliplladmamoaaGreat
