/- Laws and walks that a claim of this seat leans on: RefS, Ref7, Ref8. -/
import Derived.Test.YtaipaccpaljecaaGreatRRef1
import Derived.Test.YtaipaccpaljecaaGreatR03
import Derived.Test.YtaipaccpaljecaaGreatRRef6
import Derived.Test.YtaipaccpaljecaaGreatR08
import Derived.Test.YtaipaccpaljecaaGreatR00
set_option maxRecDepth 100000
set_option maxHeartbeats 8000000
set_option linter.all false
namespace Go.Proofs.YtaipaccpaljecaaGreat
open Go.RowKit
def sigGood (ls:List Signal) (k:Nat):Prop:=∀ h:k<ls.length,(ls[k].name.toList.isEmpty=false)/\sigNum ls[k]=true/\∀ j (hj:j<k),ls[j].name.toList≠ls[k].name.toList
theorem sigsOk_good (ls:List Signal):sigsOk [[]] ls=true↔∀ k,sigGood ls k:=by
 rw [sigsOk_iff]
 constructor
 ·intro h k hk
  obtain ⟨h1,h2,h3⟩:=h k hk
  exact ⟨by simpa [ByteArray.toList_eq] using h1,h2,fun j hj=>by simpa [ByteArray.toList_eq] using h3 j hj⟩
 ·intro h k hk
  obtain ⟨h1,h2,h3⟩:=h k hk
  exact ⟨by simpa [ByteArray.toList_eq] using h1,h2,fun j hj=>by simpa [ByteArray.toList_eq] using h3 j hj⟩
theorem sigsOk_bad {ls:List Signal} {k:Nat} (h:¬ sigGood ls k):sigsOk [[]] ls=false:=by
 cases e:sigsOk [[]] ls
 ·rfl
 ·exact absurd ((sigsOk_good ls).1 e k) h
theorem Signals_callsR (ls:List Signal) (s:Value) (w:World) (hS:Sigs w s ls) (hlen:ls.length<=1048576) :
  Calls Tryz.prog 193 #[s] w fun r w'=>r=.returned (.bool (sigsOk [[]] ls))/\Ext w w':=by
 obtain ⟨a,b,o,cap,rfl,hc1,hc2,ha,hr⟩:=hS.open
 have HR:=Jh hr
 have HA:=Jh ha
 clear hr ha hS
 go_enter Tryz.func193,Tryz.ntmps193
 go_wp2_with fail
 go_loopw [3,4,5] (fun i _ _ wr=>∃ k:Nat,k<=ls.length/\i=.int .i64 k/\(∀ j,j<k->sigGood ls j)/\Ext w wr) (fun i _ _ _=>ls.length-(intOf i).toNat)
 case atStart=>exact ⟨0,Nat.zero_le _,rfl,fun j hj=>absurd hj (by omega),Below.refl _ _⟩
 case round =>
  obtain ⟨k,hk,rfl,hgood,hB⟩:=hrel
  have HGOOD:=Jh hgood
  clear hgood
  by_cases hlt:k<ls.length
  ·have he:=Sigs.get (HR.out.mono fun x _ b o h=>SigAt.ext' hB h) hlt
   obtain rfl:=HA.out (by omega)
   have HGET:=Jh (fun (j:Nat) (hj:j<ls.length) W (hx:Ext wr W)=>Sigs.get (HR.out.mono fun x _ b o h=>SigAt.ext' (hB.trans hx) h) hj)
   have HBAD:=Jh (fun (h:¬ (ls[k].name.toList.isEmpty=false/\sigNum ls[k]=true/\∀ j (hj:j<k),ls[j].name.toList≠ls[k].name.toList))=>sigsOk_bad (ls:=ls) (k:=k) (fun g=>h (g hlt)))
   have HGD:=Jh (fun (h:ls[k].name.toList.isEmpty=false/\sigNum ls[k]=true/\∀ j (hj:j<k),ls[j].name.toList≠ls[k].name.toList)=>(show sigGood ls k from fun _=>h))
   have hx2:=ext_alloc wr (.cells ls[k].cells.toArray 36)
   have hb2:=Has.alloc wr ls[k].cells 36
   obtain ⟨x,hx⟩:∃ x,ls[k]=x:=⟨_,rfl⟩
   rw [hx] at he hx2 hb2 HBAD HGD
   clear hx
   go_upto_region 5 with (first | ((with_reducible show Jl 36);refine Jm 36 (he) agg_Signal rfl ?_) | ((with_reducible show Js 36);refine wpList_store_new rfl 36 _ _ rfl rfl (by first | rfl | simp) rfl agg_Signal (rfl) rfl (by rfl) ?_))
   generalize wr.alloc _=w2 at *
   have HB:=Jh hb2
   have HX2:=Jh hx2
   have g0:=hb2 0 _ rfl
   have g1:=hb2 1 _ rfl
   have g2:=hb2 2 _ rfl
   have g3:=hb2 3 _ rfl
   clear hb2 hx2 he
   cases q0:x.name.toList.isEmpty with
   | true =>
    have HF:=Jh (HBAD.out (fun h=>by rw [q0] at h;cases h.1))
    clear HBAD
    go_wp2_with fail
    go_ret
    exact ⟨ret_bool HF.out.symm,hB.trans HX2.out⟩
   | false =>
    cases hn:sigNum x with
    | false =>
     have HF:=Jh (HBAD.out (fun h=>by rw [hn] at h;cases h.2.1))
     clear HBAD HGD
     have b1:x.kind≠4->(x.kind != 4)=true:=fun h=>by rw [bne_iff_ne];exact h
     have b2:x.init≠0->(x.init != 0)=true:=fun h=>by rw [bne_iff_ne];exact h
     have B1:=Jh b1
     have B2:=Jh b2
     clear b1 b2
     have hbad:x.w<1\/64<x.w\/x.kind<1\/4<x.kind\/(1<=x.w/\x.w<=64/\1<=x.kind/\x.kind<=4/\x.kind≠4/\x.init≠0):=by
      unfold sigNum at hn
      by_cases h1:x.w<1
      ·exact .inl h1
      by_cases h2:64<x.w
      ·exact .inr (.inl h2)
      by_cases h3:x.kind<1
      ·exact .inr (.inr (.inl h3))
      by_cases h4:4<x.kind
      ·exact .inr (.inr (.inr (.inl h4)))
      by_cases h5:x.kind=4
      ·exfalso;simp [h5] at hn;omega
      by_cases h6:x.init=0
      ·exfalso;simp [h6] at hn;omega
      exact .inr (.inr (.inr (.inr ⟨by omega,by omega,by omega,by omega,h5,h6⟩)))
     clear hn
     rcases hbad with h1 | h1 | h1 | h1 | ⟨h1,h2,h3,h4,h5,h6⟩
     rotate_left 4
     ·have b1:=B1.out h5
      have b2:=B2.out h6
      clear h5 h6
      go_wp2_with fail
      all_goals go_ret
      all_goals exact ⟨ret_bool HF.out.symm,hB.trans HX2.out⟩
     all_goals (go_wp2_with fail)
     all_goals go_ret
     all_goals exact ⟨ret_bool HF.out.symm,hB.trans HX2.out⟩
    | true =>
     have hn':=hn
     unfold sigNum at hn'
     simp only [Bool.and_eq_true,Bool.or_eq_true,decide_eq_true_eq] at hn'
     obtain ⟨⟨⟨⟨q1,q2⟩,q3⟩,q4⟩,q5⟩:=hn'
     have HNUM:=Jh hn
     have hb4:(x.kind != 4)=false\/((x.kind != 4)=true/\(x.init != 0)=false):=by
      by_cases hk4:x.kind=4
      ·exact .inl (by rw [bne_eq_false_iff_eq];exact hk4)
      ·exact .inr ⟨by rw [bne_iff_ne];exact hk4,by rw [bne_eq_false_iff_eq];exact q5.resolve_left hk4⟩
     clear hn q5
     rcases hb4 with b1 | ⟨b1,b2⟩
     all_goals (
      go_upto_region 7 with fail
      clear g1 g2 g3 q1 q2 q3 q4
      go_wp2_with fail
      go_loopw [5] (fun i wr'=>∃ j:Nat,j<=k/\i=.int .i64 j/\(∀ j',(hj':j'<j)->(hj2:j'<ls.length)->ls[j'].name.toList≠x.name.toList)/\Ext w2 wr') (fun i _=>k-(intOf i).toNat)
      case atStart=>exact ⟨0,Nat.zero_le _,rfl,fun j' hj'=>absurd hj' (by omega),Below.refl _ _⟩
      case round =>
       obtain ⟨j,hj,rfl,hne,hB2⟩:=hrel
       have HNE:=Jh hne
       have HBB:=Jh hB2
       clear hne hB2
       by_cases hjk:j<k
       ·have HGJ:=Jh (HGET.out j (by omega))
        obtain ⟨y,hy⟩:∃ y,ls[j]=y:=⟨_,rfl⟩
        rw [hy] at HGJ
        have HY:=Jh hy
        clear hy
        obtain ⟨c,hc⟩:∃ c,(y.name.toList==x.name.toList)=c:=⟨_,rfl⟩
        have HC:=Jh hc
        clear hc
        go_upto_region 10 with fail
        refine wp_region_held_drew (S:=fun W=>Ext w2 W) (by kernel_rfl) (Below.drew HBB.out) (fun hH=>?_)
        try simp only [J]
        (refine Jt 0 (_) rfl (yif_load1 rfl fun _ _=>rfl) hH ?_;try simp only [J])
        (refine Jt 1 (_) rfl (yif_load1 rfl fun _ _=>rfl) hH ?_;try simp only [J])
        (refine Jt 2 (.pointer (some ⟨b,o+j*4,Option.none⟩)) rfl (yif_load1 rfl (by intro W hW;clear hW;go_simp;try (intro h;omega))) hH ?_;try simp only [J])
        (refine Jt 3 (_) rfl (yif_load1 rfl (by intro W hW;clear hW;go_simp;rfl)) hH ?_;try simp only [J])
        (refine Jt 4 (.string y.name) rfl (yif_load1 rfl (by intro W hW;have y0:W.cell? ⟨b,o+j*4,none⟩=some (.string y.name):=(HGJ.out W (HX2.out.trans hW)) 0 _ rfl;clear hW;go_simp)) hH ?_;try simp only [J])
        (refine Jt 5 (_) rfl (yif_load1 rfl (by intro W hW;clear hW;go_simp;rfl)) hH ?_;try simp only [J])
        (refine Jt 6 (.string x.name) rfl (yif_load1 rfl (by intro W hW;have y0:=(HB.out.ext hW) 0 _ rfl;clear hW g0;rw [Nat.add_zero] at y0;go_simp)) hH ?_;try simp only [J])
        (refine Jt 7 (.bool c) rfl (yif_load1 rfl (by intro W hW;clear hW;go_simp;exact HC.out)) hH ?_;try simp only [J])
        refine Jz ?_
        cases c
        ·go_wp2_with fail
         go_roundw
         case rel=>exact ⟨j+1,by omega,by go_num,fun j' h1 h2=>by
          by_cases e:j'=j
          ·subst e;rw [HY.out];simpa using HC.out
          ·exact HNE.out j' (by omega) h2,hH⟩
         case measure=>simp [intOf];omega
        ·have HF:=Jh (HBAD.out (fun h=>h.2.2 j hjk (by rw [HY.out];simpa using HC.out)))
         go_wp2_with fail
         go_ret
         exact ⟨ret_bool HF.out.symm,hB.trans (HX2.out.trans hH)⟩
       ·obtain rfl:j=k:=by omega
        have HF:=Jh (HGD.out ⟨q0,HNUM.out,fun j' h=>HNE.out j' h (by omega)⟩)
        clear q0
        go_wp2_with fail
        go_roundw
        case rel=>exact ⟨j+1,by omega,by go_num,fun j' h=>by
         by_cases e:j'=j
         ·subst e;exact HF.out
         ·exact HGOOD.out j' (by omega),hB.trans (HX2.out.trans HBB.out)⟩
        case measure=>simp [intOf];omega)
  ·obtain rfl:k=ls.length:=by omega
   have HF:=Jh ((sigsOk_good ls).2 (fun k=>by
    by_cases h:k<ls.length
    ·exact HGOOD.out k h
    ·exact fun h'=>absurd h' h))
   go_wp2_with fail
   go_ret
   exact ⟨ret_bool HF.out.symm,hB⟩
theorem bit_callsR {ls:List Signal} (hls:∀ x∈ls,x.w<=64) (e:E) (hsh:shape ls e=true) (hwf:e.wf) (hnb:nodes e<=1048576) (cs:List Value) (w:World) (hV:VE w cs e) :
  Calls Tryz.prog 150 #[.agg cs.toArray] w (SizePost w (sizeE e (-1))):=by
 have HOWN:=Jh (fun W (hx:Ext w W)=>own_callsR hls e hsh hnb cs W (hV.ext hx))
 have HSZ:=Jh (fun W (hx:Ext w W)=>sized_callsR hls e hsh hwf hnb 1 cs W (hV.ext hx) (by decide) (by decide))
 have HB:=Jh (sizeE_bit e)
 have h8:cs.length=8:=by obtain ⟨s,rfl,-⟩:=hV;rfl
 clear hls hsh hwf hnb
 have hx:=(ext_alloc w (.cells cs.toArray 64)).alloc (.cells zeroE.toArray 64)
 have hb0:=(Has.alloc w cs 64).ext (ext_alloc _ (.cells zeroE.toArray 64))
 have hb1:=Blk.new (w.alloc (.cells cs.toArray 64)) zeroE.toArray 64
 simp only [World.size_alloc] at hb1
 go_enter Tryz.func150,Tryz.ntmps150
 go_upto_region 1 with fail
 generalize (w.alloc _).alloc _=w0 at *
 have HX:=Jh hx
 have K0:=Jh hb0
 have K1:=Jh hb1
 have hlt:w.heap.size+1<w0.heap.size:=hb1.lt
 clear hx hb0 hb1 hV
 obtain ⟨q,hq⟩:∃ q,own e=q:=⟨_,rfl⟩
 rw [hq] at HOWN HB
 clear hq
 by_cases h1:1<q
 ·have HM:=Jh (show sizeE e (-1)=.error 91 by rw [HB.out,if_pos h1])
  go_wp2_with (first | ((with_reducible show Jl 64);refine Jm 64 (K0.out) agg_E h8 ?_) | (go_at_call 196;refine (HOWN.out _ HX.out).mono ?_;rintro r w1 ⟨rfl,hx1⟩;have hk4:=K1.out.ext hx1) | ((with_reducible show Js 64);refine wpList_store_blk rfl 64 _ _ rfl hk4 rfl (cs:=zeroE) rfl agg_E rfl rfl rfl ?_;intro w9 hb9 hg9) | ((with_reducible show bodyPost _ _ _ _ _ _);refine Hid.out ?_))
  refine Jh ?_
  refine post_ret_blk2 rfl rfl rfl hb9.has agg_E rfl rfl (.inl ⟨91,HM.out,by omega,rfl,(HX.out.trans hx1).grown hg9 (by omega)⟩)
 ·have HM:=Jh (show sizeE e (-1)=sizeE e 1 by rw [HB.out,if_neg h1])
  go_wp2_with (first | ((with_reducible show Jl 64);refine Jm 64 (HBX.out) agg_E h8 ?_) | ((with_reducible show Jl 64);refine Jm 64 (K0.out) agg_E h8 ?_) | (go_at_call 196;refine (HOWN.out _ HX.out).mono ?_;rintro r w1 ⟨rfl,hx1⟩;have HBX:=Jh (K0.out.ext hx1)) | (go_at_call 197;refine (HSZ.out _ (HX.out.trans hx1)).mono ?_;intro r w3 hp3;obtain ⟨cs2,g,rfl,h82,hone,hx3,-⟩:=hp3.open;have HP3:=Jh hp3;clear hp3;have hk4:=K1.out.ext (hx1.trans hx3)) | ((with_reducible show Js 64);refine wpList_store_blk rfl 64 _ _ rfl hk4 rfl (cs:=cs2) rfl agg_E h82 rfl hone ?_;intro w9 hb9 hg9) | ((with_reducible show bodyPost _ _ _ _ _ _);refine Hid.out ?_))
  refine Jh ?_
  have hs1:=hx1.size
  refine post_ret_blk2 rfl rfl rfl hb9.has agg_E h82 rfl ?_
  rw [HM.out]
  exact HP3.out.again (HX.out.trans hx1) ((HX.out.trans (hx1.trans hx3)).grown hg9 (by omega)) (Since.of_grown hg9 (by omega))
theorem fills_callsR (ls:List Signal) (hwf:∀ x∈ls,x.wf) (hpos:∀ x∈ls,0<=x.w) (s:Value) (w:World) (hS:Sigs w s ls) :
  Calls Tryz.prog 148 #[s] w fun r w'=>r=.returned (.bool (!ls.any fun s=>!holds s.w s.init))/\Ext w w':=by
 obtain ⟨a,b,o,cap,rfl,hc1,hc2,ha,hr⟩:=hS.open
 have HR:=Jh hr
 have HA:=Jh ha
 have HWF:=Jh hwf
 have HPOS:=Jh hpos
 clear hr ha hS hwf hpos
 go_enter Tryz.func148,Tryz.ntmps148
 go_wp2_with fail
 go_loopw [3] (fun i wr=>∃ k:Nat,k<=ls.length/\i=.int .i64 k/\((ls.take k).any fun s=>!holds s.w s.init)=false/\Ext w wr) (fun i _=>ls.length-(intOf i).toNat)
 case atStart=>exact ⟨0,Nat.zero_le _,rfl,rfl,Below.refl _ _⟩
 case round =>
  obtain ⟨k,hk,rfl,hgood,hB⟩:=hrel
  have HGOOD:=Jh hgood
  clear hgood
  by_cases hlt:k<ls.length
  ·obtain rfl:=HA.out (by omega)
   have HGET:=Jh (fun W (hx:Ext wr W)=>Sigs.get (HR.out.mono fun x _ b o h=>SigAt.ext' (hB.trans hx) h) hlt)
   have hmem:=List.getElem_mem hlt
   have hw:=HWF.out _ hmem
   have hp:=HPOS.out _ hmem
   have HTK:=Jh (take_snoc ls k hlt)
   obtain ⟨x,hx⟩:∃ x,ls[k]=x:=⟨_,rfl⟩
   rw [hx] at HGET hw hp HTK hmem
   obtain ⟨hw1,-,hw3,-⟩:=hw
   have HC:=Jh (fun W=>Holds_calls x.w x.init W hw3 hp hw1.2)
   clear hx hw1 hw3 hp
   have HB:=Jh hB
   clear hB
   obtain ⟨c,hc⟩:∃ c,holds x.w x.init=c:=⟨_,rfl⟩
   rw [hc] at HC
   have HCC:=Jh hc
   clear hc
   go_upto_region 4 with fail
   refine Jg wr fun hH=>?_
   try simp only [J]
   (refine Jt 0 (_) rfl (yif_load1 rfl fun _ _=>rfl) hH ?_;try simp only [J])
   (refine Jt 1 (_) rfl (yif_load1 rfl fun _ _=>rfl) hH ?_;try simp only [J])
   (refine Jt 2 (.pointer (some ⟨b,o+k*4,Option.none⟩)) rfl (yif_load1 rfl (by intro W hW;clear hW;go_simp;try (intro h;omega))) hH ?_;try simp only [J])
   (refine Jt 3 (_) rfl (yif_load1 rfl (by intro W hW;clear hW;go_simp;rfl)) hH ?_;try simp only [J])
   (refine Jt 4 (.int .i64 x.w) rfl (yif_load1 rfl (by intro W hW;have y0:W.cell? ⟨b,o+k*4+1,none⟩=some (.int .i64 x.w):=(HGET.out W hW) 1 _ rfl;clear hW;go_simp)) hH ?_;try simp only [J])
   (refine Jt 5 (_) rfl (yif_load1 rfl fun _ _=>rfl) hH ?_;try simp only [J])
   (refine Jt 6 (_) rfl (yif_load1 rfl fun _ _=>rfl) hH ?_;try simp only [J])
   (refine Jt 7 (.pointer (some ⟨b,o+k*4,Option.none⟩)) rfl (yif_load1 rfl (by intro W hW;clear hW;go_simp;try (intro h;omega))) hH ?_;try simp only [J])
   (refine Jt 8 (_) rfl (yif_load1 rfl (by intro W hW;clear hW;go_simp;rfl)) hH ?_;try simp only [J])
   (refine Jt 9 (.int .u64 x.init) rfl (yif_load1 rfl (by intro W hW;have y0:W.cell? ⟨b,o+k*4+3,none⟩=some (.int .u64 x.init):=(HGET.out W hW) 3 _ rfl;clear hW;go_simp)) hH ?_;try simp only [J])
   refine Jr 10 rfl fun K hK=>?_
   go_simp
   refine (HC.out _).mono ?_
   rintro r w1 ⟨rfl,rfl⟩
   refine hK.out _ _ hH (fun hH=>?_)
   clear hK K
   try simp only [J]
   (refine Jt 11 (.bool (!c)) rfl (yif_load1 rfl (by intro W hW;clear hW;go_simp)) hH ?_;try simp only [J])
   refine Jz ?_
   cases c
   ·have HF:=Jh (show (!ls.any fun s=>!holds s.w s.init)=false by
     rw [Bool.not_eq_false',List.any_eq_true];exact ⟨x,hmem,by rw [HCC.out];rfl⟩)
    go_wp2_with fail
    go_ret
    exact ⟨ret_bool HF.out.symm,HB.out.trans hH⟩
   ·go_wp2_with fail
    go_roundw
    case rel=>exact ⟨k+1,by omega,by go_num,by rw [HTK.out,List.any_append,HGOOD.out];simp [HCC.out],HB.out.trans hH⟩
    case measure=>simp [intOf];omega
  ·obtain rfl:k=ls.length:=by omega
   have hf:=HGOOD.out
   rw [List.take_length] at hf
   have HF:=Jh (show (!ls.any fun s=>!holds s.w s.init)=true by rw [hf];rfl)
   clear hf
   go_wp2_with fail
   go_ret
   exact ⟨ret_bool HF.out.symm,hB⟩
def StR (ls:List Signal) (t:T):Prop:=∀ (s0:Value) (cs:List Value) (w:World),Sigs w s0 ls->VT w cs t->t.wf ->
 Calls Tryz.prog 237 #[s0,.agg cs.toArray] w fun r w'=>r=.returned (.bool (shapeT ls t))/\Ext w w'
theorem statements_callsR (ls:List Signal) (l:List T) (ih:∀ x∈l,StR ls x) (hwf:∀ x∈l,x.wf) (s0 s:Value) (w:World) (hS:Sigs w s0 ls) (h:Ts w s l) :
  Calls Tryz.prog 191 #[s0,s] w fun r w'=>r=.returned (.bool (l.all (shapeT ls)))/\Ext w w':=by
 have IH:=Jh ih
 have HWF:=Jh hwf
 have HS:=Jh hS
 clear ih hwf hS
 obtain ⟨a,b,o,cap,hs,hc1,hc2,ha,hr⟩:=h.open
 subst hs
 go_enter Tryz.func191,Tryz.ntmps191
 go_wp2_with fail
 go_loopw [5] (fun i wr=>∃ k:Nat,k<=l.length/\i=.int .i64 k/\(l.take k).all (shapeT ls)=true/\Ext w wr) (fun i _=>l.length-(intOf i).toNat)
 case atStart=>exact ⟨0,Nat.zero_le _,rfl,rfl,Below.refl _ _⟩
 case round =>
  obtain ⟨k,hk,rfl,hno,hB⟩:=hrel
  have HNO:=Jh hno
  clear hno
  by_cases hlt:k<l.length
  ·obtain ⟨cs,he1,hn,he2⟩:=VT.get (hr.mono fun x _ b o h=>TAt.ext' hB h) hlt
   obtain rfl:=ha (by omega)
   have hmem:l[k]∈l:=List.getElem_mem hlt
   have HC:=Jh (IH.out _ hmem s0 cs wr (HS.out.ext hB) he2 (HWF.out _ hmem))
   have HT:=Jh (take_snoc l k hlt)
   generalize hek:l[k]=ek at *
   cases hp:shapeT ls ek with
   | true =>
    rw [hp] at HC
    have HP:=Jh hp
    clear hp hek
    go_wp2_with (first | ((with_reducible show Jl 60);refine Jm 60 (he1) agg_T hn ?_) | (go_at_call 237;refine HC.out.mono ?_;rintro r w1 ⟨rfl,hx1⟩))
    go_roundw
    case rel=>exact ⟨k+1,by omega,by go_num,by rw [HT.out,List.all_append,HNO.out];simp [HP.out],hB.trans hx1⟩
    case measure=>simp [intOf];omega
   | false =>
    rw [hp] at HC
    have HP:=Jh (show l.all (shapeT ls)=false from by
     rw [List.all_eq_false];exact ⟨ek,hmem,by simp [hp]⟩)
    clear hp hek
    go_wp2_with (first | ((with_reducible show Jl 60);refine Jm 60 (he1) agg_T hn ?_) | (go_at_call 237;refine HC.out.mono ?_;rintro r w1 ⟨rfl,hx1⟩))
    go_ret
    exact ⟨ret_bool HP.out.symm,hB.trans hx1⟩
  ·obtain rfl:k=l.length:=by omega
   have hf:=HNO.out
   rw [List.take_length] at hf
   have HF:=Jh hf
   clear hf
   go_wp2_with fail
   go_ret
   exact ⟨ret_bool HF.out.symm,hB⟩
def armOk (ls:List Signal) (l:List T) (k:Nat):Prop:=∀ h:k<l.length,(decide (l[k].e.length=0)==decide (k+1=l.length))=true/\shapeT.armT ls l[k]=true
theorem arms_iff (ls:List Signal) (l:List T):shapeT.arms ls l=true↔∀ k,armOk ls l k:=by
 have key:∀ j,j<=l.length->(shapeT.arms ls (l.drop (l.length-j))=true↔∀ k,l.length-j<=k->armOk ls l k):=by
  intro j
  induction j with
  | zero =>
   intro _
   rw [Nat.sub_zero,List.drop_length]
   exact ⟨fun _ k hk h=>absurd h (by omega),fun _=>rfl⟩
  | succ j ih =>
   intro hj
   have hlt:l.length-(j+1)<l.length:=by omega
   rw [shapeT.arms_drop ls l _ hlt,Bool.and_eq_true,Bool.and_eq_true]
   have e:l.length-(j+1)+1=l.length-j:=by omega
   rw [e,ih (by omega)]
   constructor
   ·rintro ⟨⟨h1,h2⟩,h3⟩ k hk
    by_cases hk2:k=l.length-(j+1)
    ·subst hk2
     intro h
     rw [e]
     exact ⟨h1,h2⟩
    ·exact h3 k (by omega)
   ·intro h
    have h0:=h _ (Nat.le_refl _) hlt
    rw [e] at h0
    exact ⟨h0,fun k hk=>h k (by omega)⟩
 have:=key l.length (Nat.le_refl _)
 rw [Nat.sub_self,List.drop_zero] at this
 rw [this]
 exact ⟨fun h k=>h k (Nat.zero_le _),fun h k _=>h k⟩
theorem arms_bad {ls:List Signal} {l:List T} {k:Nat} (h:¬ armOk ls l k):shapeT.arms ls l=false:=by
 cases e:shapeT.arms ls l
 ·rfl
 ·exact absurd ((arms_iff ls l).1 e k) h
theorem arms_callsR (ls:List Signal) (l:List T) (ih:∀ x∈l,∀ y∈x.l,StR ls y) (hwf:∀ x∈l,x.wf) (s0 s:Value) (w:World) (hS:Sigs w s0 ls) (h:Ts w s l) :
  Calls Tryz.prog 258 #[s0,s] w fun r w'=>r=.returned (.bool (shapeT.arms ls l&&decide (0<l.length)))/\Ext w w':=by
 have IH:=Jh ih
 have HWF:=Jh hwf
 have HS:=Jh hS
 clear ih hwf hS
 obtain ⟨a,b,o,cap,hs,hc1,hc2,ha,hr⟩:=h.open
 subst hs
 have HR:=Jh hr
 have HA:=Jh ha
 clear hr ha h
 go_enter Tryz.func258,Tryz.ntmps258
 go_wp2_with fail
 go_loopw [5,6,7] (fun i _ _ wr=>∃ k:Nat,k<=l.length/\i=.int .i64 k/\(∀ j,j<k->armOk ls l j)/\Ext w wr) (fun i _ _ _=>l.length-(intOf i).toNat)
 case atStart=>exact ⟨0,Nat.zero_le _,rfl,fun j hj=>absurd hj (by omega),Below.refl _ _⟩
 case round =>
  obtain ⟨k,hk,rfl,hgood,hB⟩:=hrel
  have HGOOD:=Jh hgood
  clear hgood
  by_cases hlt:k<l.length
  ·obtain ⟨cs,he1,hn,he2⟩:=VT.get (HR.out.mono fun x _ b o h=>TAt.ext' hB h) hlt
   obtain rfl:=HA.out (by omega)
   have hmem:l[k]∈l:=List.getElem_mem hlt
   have hih:=IH.out _ hmem
   have hwk:=HWF.out _ hmem
   have HBAD:=Jh (fun (h:¬ ((decide (l[k].e.length=0)==decide (k+1=l.length))=true/\shapeT.armT ls l[k]=true))=>(show (shapeT.arms ls l&&decide (0<l.length))=false by rw [arms_bad (k:=k) (fun g=>h (g hlt))];rfl))
   have HGD:=Jh (fun (h:(decide (l[k].e.length=0)==decide (k+1=l.length))=true/\shapeT.armT ls l[k]=true)=>(show armOk ls l k from fun _=>h))
   obtain ⟨t,ht⟩:∃ t,l[k]=t:=⟨_,rfl⟩
   rw [ht] at he2 hih hwk HBAD HGD
   clear ht hmem
   obtain ⟨op,sig,hi,lo,e,tl⟩:=t
   obtain ⟨se,sl,rfl,hse,hsl⟩:=he2
   have harm:=shapeT.armT_eq ls ⟨op,sig,hi,lo,e,tl⟩
   simp only at harm hse hsl hih
   have HARM:=Jh harm
   obtain ⟨w1,w2,w3,w4,w5,w6⟩:=(T.wf_iff _).1 hwk
   simp only at w5 w6
   have HE:=Jh hse
   have HSH:=Jh (fun W (hx:Ext wr W)=>shapes_callsR ls e (fun x _=>Shape_callsR ls x) w5 s0 se W (HS.out.ext (hB.trans hx)) (hse.ext hx))
   have HST:=Jh (fun W (hx:Ext wr W)=>statements_callsR ls tl hih w6 s0 sl W (HS.out.ext (hB.trans hx)) (hsl.ext hx))
   obtain ⟨a1,b1,o1,cap1,rfl,hd1,hd2,ha1,hr1⟩:=hse.open
   have HA1:=Jh ha1
   have HR1:=Jh hr1
   have HONE:=Jh (show (T.cells ⟨op,sig,hi,lo,e,tl⟩ (.slice a1 e.length cap1) sl).all (·.oneCell')=true by simp [hsl.one,one_int,HE.out.one])
   clear ha1 hr1 hse hsl hih hwk harm w1 w2 w3 w4 w5 w6 HE
   have hx2:=ext_alloc wr (.cells (T.cells ⟨op,sig,hi,lo,e,tl⟩ (.slice a1 e.length cap1) sl).toArray 60)
   have hb2:=Has.alloc wr (T.cells ⟨op,sig,hi,lo,e,tl⟩ (.slice a1 e.length cap1) sl) 60
   go_upto_region 5 with (first | ((with_reducible show Jl 60);refine Jm 60 (he1) agg_T hn ?_) | ((with_reducible show Js 60);refine wpList_store_new rfl 60 _ _ rfl rfl (by first | rfl | simp) rfl agg_T (hn) rfl (HONE.out) ?_))
   generalize wr.alloc _=w2 at *
   have HB2:=Jh hb2
   have HX2:=Jh hx2
   have g0:=hb2 0 _ rfl
   have g1:=hb2 1 _ rfl
   have g2:=hb2 2 _ rfl
   have g3:=hb2 3 _ rfl
   have g4:=hb2 4 _ rfl
   clear hb2 hx2 he1
   by_cases qop:op=4
   rotate_left
   ·have cop:(op != 4)=true:=by rw [bne_iff_ne];exact qop
    have Q:=Jh qop
    clear qop
    have HF:=Jh (HBAD.out (fun h=>by have h2:=h.2;rw [HARM.out] at h2;simp only [Bool.and_eq_true,decide_eq_true_eq] at h2;exact Q.out (by omega)))
    go_wp2_with fail
    go_ret
    exact ⟨ret_bool HF.out.symm,hB.trans HX2.out⟩
   subst qop
   by_cases qsig:sig=0
   rotate_left
   ·have csig:(sig != 0)=true:=by rw [bne_iff_ne];exact qsig
    have Q:=Jh qsig
    clear qsig
    have HF:=Jh (HBAD.out (fun h=>by have h2:=h.2;rw [HARM.out] at h2;simp only [Bool.and_eq_true,decide_eq_true_eq] at h2;exact Q.out (by omega)))
    go_wp2_with fail
    go_ret
    exact ⟨ret_bool HF.out.symm,hB.trans HX2.out⟩
   subst qsig
   by_cases qhi:hi=0
   rotate_left
   ·have chi:(hi != 0)=true:=by rw [bne_iff_ne];exact qhi
    have Q:=Jh qhi
    clear qhi
    have HF:=Jh (HBAD.out (fun h=>by have h2:=h.2;rw [HARM.out] at h2;simp only [Bool.and_eq_true,decide_eq_true_eq] at h2;exact Q.out (by omega)))
    go_wp2_with fail
    go_ret
    exact ⟨ret_bool HF.out.symm,hB.trans HX2.out⟩
   subst qhi
   by_cases qlo:lo=0
   rotate_left
   ·have clo:(lo != 0)=true:=by rw [bne_iff_ne];exact qlo
    have Q:=Jh qlo
    clear qlo
    have HF:=Jh (HBAD.out (fun h=>by have h2:=h.2;rw [HARM.out] at h2;simp only [Bool.and_eq_true,decide_eq_true_eq] at h2;exact Q.out (by omega)))
    go_wp2_with fail
    go_ret
    exact ⟨ret_bool HF.out.symm,hB.trans HX2.out⟩
   subst qlo
   by_cases qe:(decide (e.length=0)==decide (k+1=l.length))=true
   rotate_left
   ·have HF:=Jh (HBAD.out (fun h=>qe h.1))
    have c1:((((e.length:Nat):Int)==0)==(((k:Nat):Int)==((l.length:Nat):Int)-1))=false:=by
     have e1:(((e.length:Nat):Int)==0)=decide (e.length=0):=by rw [Bool.eq_iff_iff];simp
     have e2:(((k:Nat):Int)==((l.length:Nat):Int)-1)=decide (k+1=l.length):=by rw [Bool.eq_iff_iff];simp;omega
     rw [e1,e2]
     revert qe
     cases decide (e.length=0)<;>cases decide (k+1=l.length)<;>simp
    clear qe
    go_wp2_with fail
    go_ret
    exact ⟨ret_bool HF.out.symm,hB.trans HX2.out⟩
   have c1:((((e.length:Nat):Int)==0)==(((k:Nat):Int)==((l.length:Nat):Int)-1))=true:=by
    have e1:(((e.length:Nat):Int)==0)=decide (e.length=0):=by rw [Bool.eq_iff_iff];simp
    have e2:(((k:Nat):Int)==((l.length:Nat):Int)-1)=decide (k+1=l.length):=by rw [Bool.eq_iff_iff];simp;omega
    rw [e1,e2]
    revert qe
    cases decide (e.length=0)<;>cases decide (k+1=l.length)<;>simp
   have QE:=Jh qe
   clear qe
   cases hsh:e.all (shape ls) with
   | false =>
    have HF:=Jh (HBAD.out (fun h=>by
     have h2:=h.2;rw [HARM.out] at h2;simp only [Bool.and_eq_true,decide_eq_true_eq] at h2
     have h3:=h2.1.2
     rw [List.all_eq_true] at h3
     have h4:e.all (shape ls)=true:=List.all_eq_true.2 fun x hx=>by have:=h3 x hx;simp only [Bool.and_eq_true] at this;exact this.2
     rw [hsh] at h4;cases h4))
    rw [hsh] at HSH
    clear hsh
    go_wp2_with (first | (go_at_call 240;refine (HSH.out _ HX2.out).mono ?_;rintro r w3 ⟨rfl,hx3⟩))
    go_ret
    exact ⟨ret_bool HF.out.symm,hB.trans (HX2.out.trans hx3)⟩
   | true =>
    rw [hsh] at HSH
    have HSHT:=Jh hsh
    clear hsh
    cases hst:tl.all (shapeT ls) with
    | false =>
     have HF:=Jh (HBAD.out (fun h=>by have h2:=h.2;rw [HARM.out] at h2;simp only [Bool.and_eq_true,decide_eq_true_eq] at h2;rw [hst] at h2;cases h2.2))
     rw [hst] at HST
     clear hst
     go_wp2_with (first | (go_at_call 240;refine (HSH.out _ HX2.out).mono ?_;rintro r w3 ⟨rfl,hx3⟩;have y5:=(HB2.out.ext hx3) 5 _ rfl) | (go_at_call 191;refine (HST.out _ (HX2.out.trans hx3)).mono ?_;rintro r w4 ⟨rfl,hx4⟩))
     go_ret
     exact ⟨ret_bool HF.out.symm,hB.trans (HX2.out.trans (hx3.trans hx4))⟩
    | true =>
     rw [hst] at HST
     have HSTT:=Jh hst
     clear hst
     go_upto_region 7 with (first | (go_at_call 240;refine (HSH.out _ HX2.out).mono ?_;rintro r w3 ⟨rfl,hx3⟩;have y5:=(HB2.out.ext hx3) 5 _ rfl) | (go_at_call 191;refine (HST.out _ (HX2.out.trans hx3)).mono ?_;rintro r w4 ⟨rfl,hx4⟩))
     have HB4:=Jh (HB2.out.ext (hx3.trans hx4))
     have HX4:=Jh (HX2.out.trans (hx3.trans hx4))
     clear g0 g1 g2 g3 g4 y5 hx3 hx4 c1 HSH HST
     go_wp2_with fail
     go_loopw [7] (fun i wr'=>∃ j:Nat,j<=e.length/\i=.int .i64 j/\((e.take j).all fun x=>decide (x.op=1))=true/\Ext w4 wr') (fun i _=>e.length-(intOf i).toNat)
     case atStart=>exact ⟨0,Nat.zero_le _,rfl,rfl,Below.refl _ _⟩
     case round =>
      obtain ⟨j,hj,rfl,hall,hB3⟩:=hrel
      have HALL:=Jh hall
      have HBJ:=Jh (HB4.out.ext hB3)
      have y4:=HBJ.out 4 _ rfl
      clear hall
      by_cases hjt:j<e.length
      ·obtain rfl:=HA1.out (by omega)
       obtain ⟨sx,q1,-⟩:=Es.get (HR1.out.mono fun x _ b o h=>EAt.ext' (HX4.out.trans hB3) h) hjt
       have yx:=q1 0 _ rfl
       rw [Nat.add_zero] at yx
       have HTJ:=Jh (take_snoc e j hjt)
       have hmem:=List.getElem_mem hjt
       obtain ⟨x,hx⟩:∃ x,e[j]=x:=⟨_,rfl⟩
       rw [hx] at yx HTJ hmem
       clear hx q1
       by_cases hx1:x.op=1
       ·have cx:(x.op != 1)=false:=by rw [bne_eq_false_iff_eq];exact hx1
        have HX1:=Jh hx1
        clear hx1
        go_wp2_with fail
        go_roundw
        case rel=>exact ⟨j+1,by omega,by go_num,by rw [HTJ.out,List.all_append,HALL.out];simp [HX1.out],hB3⟩
        case measure=>simp [intOf];omega
       ·have cx:(x.op != 1)=true:=by rw [bne_iff_ne];exact hx1
        have HF:=Jh (HBAD.out (fun h=>by
         have h2:=h.2;rw [HARM.out] at h2;simp only [Bool.and_eq_true,decide_eq_true_eq] at h2
         have h3:=List.all_eq_true.1 h2.1.2 x hmem
         simp only [Bool.and_eq_true,decide_eq_true_eq] at h3
         exact hx1 h3.1))
        clear hx1
        go_wp2_with fail
        go_ret
        exact ⟨ret_bool HF.out.symm,hB.trans (HX4.out.trans hB3)⟩
      ·obtain rfl:j=e.length:=by omega
       have hall:=HALL.out
       rw [List.take_length] at hall
       have HG:=Jh (HGD.out ⟨QE.out,by
        rw [HARM.out]
        simp only [Bool.and_eq_true,decide_eq_true_eq]
        refine ⟨⟨⟨⟨⟨by trivial,by trivial⟩,by trivial⟩,by trivial⟩,?_⟩,HSTT.out⟩
        rw [List.all_eq_true] at hall ⊢
        intro x hx
        have h1:=hall x hx
        have h2:=List.all_eq_true.1 HSHT.out x hx
        simp only [decide_eq_true_eq] at h1
        simp [h1,h2]⟩)
       clear hall
       go_wp2_with fail
       go_roundw
       case rel=>exact ⟨k+1,by omega,by go_num,fun j' h=>by
        by_cases e':j'=k
        ·subst e';exact HG.out
        ·exact HGOOD.out j' (by omega),hB.trans (HX4.out.trans hB3)⟩
       case measure=>simp [intOf];omega
  ·obtain rfl:k=l.length:=by omega
   have ha:shapeT.arms ls l=true:=(arms_iff ls l).2 (fun k=>by
    by_cases h:k<l.length
    ·exact HGOOD.out k h
    ·exact fun h'=>absurd h' h)
   have HAA:=Jh ha
   clear ha
   go_wp2_with fail
   go_ret
   exact ⟨ret_bool (by rw [HAA.out,Bool.true_and];refine Bool.eq_iff_iff.2 ?_;simp;omega),hB⟩
theorem statement_stepR (ls:List Signal) (t:T) (ih:∀ x∈t.l,StR ls x/\∀ y∈x.l,StR ls y):StR ls t:=by
 intro s0 cs w hS hV hwf
 have hsh:=shapeT_eq ls t
 have h6:=(T.wf_iff t).1 hwf
 obtain ⟨op,sig,hi,lo,e,l⟩:=t
 simp only at ih hsh h6
 obtain ⟨-,hsw,-,-,hew,hlw⟩:=h6
 obtain ⟨se,sl,rfl,hse,hsl⟩:=hV
 have HSH:=Jh (fun W (hx:Ext w W)=>shapes_callsR ls e (fun x _=>Shape_callsR ls x) hew s0 se W (hS.ext hx) (hse.ext hx))
 have HST:=Jh (fun W (hx:Ext w W)=>statements_callsR ls l (fun x hx=>(ih x hx).1) hlw s0 sl W (hS.ext hx) (hsl.ext hx))
 have HAR:=Jh (fun W (hx:Ext w W)=>arms_callsR ls l (fun x hx=>(ih x hx).2) hlw s0 sl W (hS.ext hx) (hsl.ext hx))
 have HPL:=Jh (fun W (hx:Ext w W)=>place_calls ls s0 sig hi lo W (hS.ext hx) hsw)
 obtain ⟨a1,b1,o1,cap1,rfl,hc1,hc2,ha1,hr1⟩:=hse.open
 obtain ⟨a2,b2,o2,cap2,rfl,hd1,hd2,ha2,hr2⟩:=hsl.open
 have HA2:=Jh ha2
 have HR2:=Jh hr2
 have HM:=Jh hsh
 have hx:=ext_alloc w (.cells (T.cells ⟨op,sig,hi,lo,e,l⟩ (.slice a1 e.length cap1) (.slice a2 l.length cap2)).toArray 60)
 have hb:=Has.alloc w (T.cells ⟨op,sig,hi,lo,e,l⟩ (.slice a1 e.length cap1) (.slice a2 l.length cap2)) 60
 clear ih hsh hS hse hsl hwf hew hlw hsw ha1 hr1 ha2 hr2
 go_enter Tryz.func237,Tryz.ntmps237
 go_upto_region 1 with fail
 generalize w.alloc _=w0 at *
 have HX:=Jh hx
 have HB:=Jh hb
 have g0:=hb 0 _ rfl
 have g1:=hb 1 _ rfl
 have g2:=hb 2 _ rfl
 have g3:=hb 3 _ rfl
 have g4:=hb 4 _ rfl
 clear hx hb
 have HM1:=Jh (fun (h:e.all (shape ls)=false)=>(show shapeT ls ⟨op,sig,hi,lo,e,l⟩=false by
  rw [HM.out,if_pos]
  rw [Bool.or_eq_true]
  left
  rw [List.any_eq_true]
  obtain ⟨x,hx,hs⟩:=List.all_eq_false.1 h
  exact ⟨x,hx,by simpa using hs⟩))
 have HM2:=Jh (fun (h:e.all (shape ls)=true)=>(show (e.any fun x=>!shape ls x)=false by
  rw [List.any_eq_false]
  intro x hx
  have:=List.all_eq_true.1 h x hx
  simp [this]))
 obtain ⟨sb,hsb⟩:∃ sb,e.all (shape ls)=sb:=⟨_,rfl⟩
 rw [hsb] at HSH
 have HSB:=Jh hsb
 clear hsb
 by_cases o1:op=1
 ·subst o1
  have c0:((1:Int) != 1)=false:=rfl
  cases sb
  ·have HF:=Jh (HM1.out HSB.out)
   go_wp2_with (first | (go_at_call 240;refine (HSH.out _ HX.out).mono ?_;rintro r w1 ⟨rfl,hx1⟩;have HB1:=Jh (HB.out.ext hx1);have f0:=HB1.out 0 _ rfl;have f4:=HB1.out 4 _ rfl;have f5:=HB1.out 5 _ rfl))
   go_ret
   exact ⟨ret_bool HF.out.symm,HX.out.trans hx1⟩
  have HM3:=Jh (show shapeT ls ⟨1,sig,hi,lo,e,l⟩=(decide (e.length=1)&&decide (l.length=0)&&slice ls sig hi lo) by
   rw [HM.out,HM2.out HSB.out];simp)
  obtain ⟨pb,hpb⟩:∃ pb,slice ls sig hi lo=pb:=⟨_,rfl⟩
  rw [hpb] at HPL HM3
  clear hpb
  cases pb
  ·have HF:=Jh (show shapeT ls ⟨1,sig,hi,lo,e,l⟩=false by rw [HM3.out];simp)
   go_wp2_with (first | (go_at_call 240;refine (HSH.out _ HX.out).mono ?_;rintro r w1 ⟨rfl,hx1⟩;have HB1:=Jh (HB.out.ext hx1);have f0:=HB1.out 0 _ rfl;have f4:=HB1.out 4 _ rfl;have f5:=HB1.out 5 _ rfl;have f1:=HB1.out 1 _ rfl;have f2:=HB1.out 2 _ rfl;have f3:=HB1.out 3 _ rfl) | (go_at_call 257;refine (HPL.out _ (HX.out.trans hx1)).mono ?_;rintro r w2 ⟨rfl,rfl⟩))
   go_ret
   exact ⟨ret_bool HF.out.symm,HX.out.trans hx1⟩
  ·by_cases he:e.length=1
   ·have ce:(((e.length:Nat):Int)==1)=true:=by rw [beq_iff_eq];omega
    have HEE:=Jh he
    clear he
    go_wp2_with (first | (go_at_call 240;refine (HSH.out _ HX.out).mono ?_;rintro r w1 ⟨rfl,hx1⟩;have HB1:=Jh (HB.out.ext hx1);have f0:=HB1.out 0 _ rfl;have f4:=HB1.out 4 _ rfl;have f5:=HB1.out 5 _ rfl;have f1:=HB1.out 1 _ rfl;have f2:=HB1.out 2 _ rfl;have f3:=HB1.out 3 _ rfl) | (go_at_call 257;refine (HPL.out _ (HX.out.trans hx1)).mono ?_;rintro r w2 ⟨rfl,rfl⟩))
    all_goals go_ret
    all_goals exact ⟨ret_bool (by rw [HM3.out,HEE.out];refine Bool.eq_iff_iff.2 ?_;simp),HX.out.trans hx1⟩
   ·have ce:(((e.length:Nat):Int)==1)=false:=by rw [beq_eq_false_iff_ne];omega
    have HF:=Jh (show shapeT ls ⟨1,sig,hi,lo,e,l⟩=false by rw [HM3.out];simp [he])
    clear he
    go_wp2_with (first | (go_at_call 240;refine (HSH.out _ HX.out).mono ?_;rintro r w1 ⟨rfl,hx1⟩;have HB1:=Jh (HB.out.ext hx1);have f0:=HB1.out 0 _ rfl;have f4:=HB1.out 4 _ rfl;have f5:=HB1.out 5 _ rfl;have f1:=HB1.out 1 _ rfl;have f2:=HB1.out 2 _ rfl;have f3:=HB1.out 3 _ rfl) | (go_at_call 257;refine (HPL.out _ (HX.out.trans hx1)).mono ?_;rintro r w2 ⟨rfl,rfl⟩))
    go_ret
    exact ⟨ret_bool HF.out.symm,HX.out.trans hx1⟩
 have c0:(op != 1)=true:=by rw [bne_iff_ne];exact o1
 have O1:=Jh o1
 clear o1
 by_cases qsig:sig=0
 rotate_left
 ·have csig:(sig != 0)=true:=by rw [bne_iff_ne];exact qsig
  have HF:=Jh (show shapeT ls ⟨op,sig,hi,lo,e,l⟩=false by rw [HM.out,if_pos];simp [O1.out,qsig])
  clear qsig
  go_wp2_with fail
  go_ret
  exact ⟨ret_bool HF.out.symm,HX.out⟩
 subst qsig
 by_cases qhi:hi=0
 rotate_left
 ·have chi:(hi != 0)=true:=by rw [bne_iff_ne];exact qhi
  have HF:=Jh (show shapeT ls ⟨op,0,hi,lo,e,l⟩=false by rw [HM.out,if_pos];simp [O1.out,qhi])
  clear qhi
  go_wp2_with fail
  go_ret
  exact ⟨ret_bool HF.out.symm,HX.out⟩
 subst qhi
 by_cases qlo:lo=0
 rotate_left
 ·have clo:(lo != 0)=true:=by rw [bne_iff_ne];exact qlo
  have HF:=Jh (show shapeT ls ⟨op,0,0,lo,e,l⟩=false by rw [HM.out,if_pos];simp [O1.out,qlo])
  clear qlo
  go_wp2_with fail
  go_ret
  exact ⟨ret_bool HF.out.symm,HX.out⟩
 subst qlo
 cases sb
 ·have HF:=Jh (HM1.out HSB.out)
  go_wp2_with (first | (go_at_call 240;refine (HSH.out _ HX.out).mono ?_;rintro r w1 ⟨rfl,hx1⟩;have HB1:=Jh (HB.out.ext hx1);have f0:=HB1.out 0 _ rfl;have f4:=HB1.out 4 _ rfl;have f5:=HB1.out 5 _ rfl))
  go_ret
  exact ⟨ret_bool HF.out.symm,HX.out.trans hx1⟩
 by_cases o3:op=3
 ·subst o3
  have HM3:=Jh (show shapeT ls ⟨3,0,0,0,e,l⟩=(decide (e.length=1)&&(shapeT.arms ls l&&decide (0<l.length))) by
   rw [HM.out,HM2.out HSB.out];simp)
  by_cases he:e.length=1
  ·have ce:(((e.length:Nat):Int)==1)=true:=by rw [beq_iff_eq];omega
   have HF:=Jh (show shapeT ls ⟨3,0,0,0,e,l⟩=(shapeT.arms ls l&&decide (0<l.length)) by rw [HM3.out];simp [he])
   clear he
   go_wp2_with (first | (go_at_call 240;refine (HSH.out _ HX.out).mono ?_;rintro r w1 ⟨rfl,hx1⟩;have HB1:=Jh (HB.out.ext hx1);have f0:=HB1.out 0 _ rfl;have f4:=HB1.out 4 _ rfl;have f5:=HB1.out 5 _ rfl) | (go_at_call 258;refine (HAR.out _ (HX.out.trans hx1)).mono ?_;rintro r w2 ⟨rfl,hx2⟩))
   go_ret
   exact ⟨ret_bool HF.out.symm,HX.out.trans (hx1.trans hx2)⟩
  ·have ce:(((e.length:Nat):Int)==1)=false:=by rw [beq_eq_false_iff_ne];omega
   have HF:=Jh (show shapeT ls ⟨3,0,0,0,e,l⟩=false by rw [HM3.out];simp [he])
   clear he
   go_wp2_with (first | (go_at_call 240;refine (HSH.out _ HX.out).mono ?_;rintro r w1 ⟨rfl,hx1⟩;have HB1:=Jh (HB.out.ext hx1);have f0:=HB1.out 0 _ rfl;have f4:=HB1.out 4 _ rfl;have f5:=HB1.out 5 _ rfl))
   go_ret
   exact ⟨ret_bool HF.out.symm,HX.out.trans hx1⟩
 by_cases o5:op=5
 ·subst o5
  have HM3:=Jh (show shapeT ls ⟨5,0,0,0,e,l⟩=(decide (e.length=0)&&l.all (shapeT ls)) by
   rw [HM.out,HM2.out HSB.out];simp)
  by_cases he:e.length=0
  ·have ce:(((e.length:Nat):Int)==0)=true:=by rw [beq_iff_eq];omega
   have HF:=Jh (show shapeT ls ⟨5,0,0,0,e,l⟩=l.all (shapeT ls) by rw [HM3.out];simp [he])
   clear he
   go_wp2_with (first | (go_at_call 240;refine (HSH.out _ HX.out).mono ?_;rintro r w1 ⟨rfl,hx1⟩;have HB1:=Jh (HB.out.ext hx1);have f0:=HB1.out 0 _ rfl;have f4:=HB1.out 4 _ rfl;have f5:=HB1.out 5 _ rfl) | (go_at_call 191;refine (HST.out _ (HX.out.trans hx1)).mono ?_;rintro r w2 ⟨rfl,hx2⟩))
   go_ret
   exact ⟨ret_bool HF.out.symm,HX.out.trans (hx1.trans hx2)⟩
  ·have ce:(((e.length:Nat):Int)==0)=false:=by rw [beq_eq_false_iff_ne];omega
   have HF:=Jh (show shapeT ls ⟨5,0,0,0,e,l⟩=false by rw [HM3.out];simp [he])
   clear he
   go_wp2_with (first | (go_at_call 240;refine (HSH.out _ HX.out).mono ?_;rintro r w1 ⟨rfl,hx1⟩;have HB1:=Jh (HB.out.ext hx1);have f0:=HB1.out 0 _ rfl;have f4:=HB1.out 4 _ rfl;have f5:=HB1.out 5 _ rfl))
   go_ret
   exact ⟨ret_bool HF.out.symm,HX.out.trans hx1⟩
 by_cases o2:op=2
 ·subst o2
  have HM3:=Jh (show shapeT ls ⟨2,0,0,0,e,l⟩=((decide (e.length=1)&&decide (l.length=2)&&(l.all fun x=>decide (x.op=5)))&&l.all (shapeT ls)) by
   rw [HM.out,HM2.out HSB.out];simp)
  by_cases he:e.length=1
  rotate_left
  ·have ce:(((e.length:Nat):Int)==1)=false:=by rw [beq_eq_false_iff_ne];omega
   have HF:=Jh (show shapeT ls ⟨2,0,0,0,e,l⟩=false by rw [HM3.out];simp [he])
   clear he
   go_wp2_with (first | (go_at_call 240;refine (HSH.out _ HX.out).mono ?_;rintro r w1 ⟨rfl,hx1⟩;have HB1:=Jh (HB.out.ext hx1);have f0:=HB1.out 0 _ rfl;have f4:=HB1.out 4 _ rfl;have f5:=HB1.out 5 _ rfl))
   go_ret
   exact ⟨ret_bool HF.out.symm,HX.out.trans hx1⟩
  have ce:(((e.length:Nat):Int)==1)=true:=by rw [beq_iff_eq];omega
  have HEE:=Jh he
  clear he
  by_cases hl:l.length=2
  rotate_left
  ·have cl:(((l.length:Nat):Int)==2)=false:=by rw [beq_eq_false_iff_ne];omega
   have HF:=Jh (show shapeT ls ⟨2,0,0,0,e,l⟩=false by rw [HM3.out];simp [hl])
   clear hl
   go_wp2_with (first | (go_at_call 240;refine (HSH.out _ HX.out).mono ?_;rintro r w1 ⟨rfl,hx1⟩;have HB1:=Jh (HB.out.ext hx1);have f0:=HB1.out 0 _ rfl;have f4:=HB1.out 4 _ rfl;have f5:=HB1.out 5 _ rfl))
   go_ret
   exact ⟨ret_bool HF.out.symm,HX.out.trans hx1⟩
  obtain ⟨x,y,rfl⟩:=len2 hl
  obtain rfl:=HA2.out (by simp)
  obtain ⟨sx,sx',hqx,-,-⟩:=Ts.get (HR2.out.mono fun x _ b o h=>TAt.ext' (Below.refl _ _) h) (k:=0) (by simp)
  obtain ⟨sy,sy',hqy,-,-⟩:=Ts.get (HR2.out.mono fun x _ b o h=>TAt.ext' (Below.refl _ _) h) (k:=1) (by simp)
  simp only [Jb,Jc,Nat.zero_mul,Nat.add_zero,Nat.one_mul] at hqx hqy
  have HQX:=Jh (hqx.ext HX.out)
  have HQY:=Jh (hqy.ext HX.out)
  have HEX:Hid ((2:Nat)=2):=Jh rfl
  clear hl hqx hqy
  simp only [List.length_cons,List.length_nil,Nat.zero_add,Nat.reduceAdd] at *
  by_cases hx5:x.op=5
  rotate_left
  ·have cx:(x.op==5)=false:=by rw [beq_eq_false_iff_ne];exact hx5
   have HF:=Jh (show shapeT ls ⟨2,0,0,0,e,[x,y]⟩=false by rw [HM3.out];simp [hx5])
   clear hx5
   go_wp2_with (first | (go_at_call 240;refine (HSH.out _ HX.out).mono ?_;rintro r w1 ⟨rfl,hx1⟩;have HB1:=Jh (HB.out.ext hx1);have f0:=HB1.out 0 _ rfl;have f4:=HB1.out 4 _ rfl;have f5:=HB1.out 5 _ rfl;have yx:=(HQX.out.ext hx1) 0 _ rfl;rw [Nat.add_zero] at yx))
   go_ret
   exact ⟨ret_bool HF.out.symm,HX.out.trans hx1⟩
  have cx:(x.op==5)=true:=by rw [beq_iff_eq];exact hx5
  have HX5:=Jh hx5
  clear hx5
  by_cases hy5:y.op=5
  rotate_left
  ·have cy:(y.op==5)=false:=by rw [beq_eq_false_iff_ne];exact hy5
   have HF:=Jh (show shapeT ls ⟨2,0,0,0,e,[x,y]⟩=false by rw [HM3.out];simp [hy5])
   clear hy5
   go_wp2_with (first | (go_at_call 240;refine (HSH.out _ HX.out).mono ?_;rintro r w1 ⟨rfl,hx1⟩;have HB1:=Jh (HB.out.ext hx1);have f0:=HB1.out 0 _ rfl;have f4:=HB1.out 4 _ rfl;have f5:=HB1.out 5 _ rfl;have yx:=(HQX.out.ext hx1) 0 _ rfl;rw [Nat.add_zero] at yx;have yy:=(HQY.out.ext hx1) 0 _ rfl;rw [Nat.add_zero] at yy))
   go_ret
   exact ⟨ret_bool HF.out.symm,HX.out.trans hx1⟩
  have cy:(y.op==5)=true:=by rw [beq_iff_eq];exact hy5
  have HF:=Jh (show shapeT ls ⟨2,0,0,0,e,[x,y]⟩=(shapeT ls x&&shapeT ls y) by rw [HM3.out];simp [HX5.out,hy5,HEE.out])
  clear hy5
  go_wp2_with (first | (go_at_call 240;refine (HSH.out _ HX.out).mono ?_;rintro r w1 ⟨rfl,hx1⟩;have HB1:=Jh (HB.out.ext hx1);have f0:=HB1.out 0 _ rfl;have f4:=HB1.out 4 _ rfl;have f5:=HB1.out 5 _ rfl;have yx:=(HQX.out.ext hx1) 0 _ rfl;rw [Nat.add_zero] at yx;have yy:=(HQY.out.ext hx1) 0 _ rfl;rw [Nat.add_zero] at yy) | (go_at_call 191;refine (HST.out _ (HX.out.trans hx1)).mono ?_;rintro r w2 ⟨rfl,hx2⟩))
  go_ret
  exact ⟨ret_bool HF.out.symm,HX.out.trans (hx1.trans hx2)⟩
 have HF:=Jh (show shapeT ls ⟨op,0,0,0,e,l⟩=false by
  rw [HM.out,HM2.out HSB.out];simp [O1.out,o2,o3,o5])
 have c1:(op==1)=false:=by rw [beq_eq_false_iff_ne];exact O1.out
 have c2:(op==2)=false:=by rw [beq_eq_false_iff_ne];exact o2
 have c3:(op==3)=false:=by rw [beq_eq_false_iff_ne];exact o3
 have c5:(op==5)=false:=by rw [beq_eq_false_iff_ne];exact o5
 clear o2 o3 o5
 go_wp2_with (first | (go_at_call 240;refine (HSH.out _ HX.out).mono ?_;rintro r w1 ⟨rfl,hx1⟩;have HB1:=Jh (HB.out.ext hx1);have f0:=HB1.out 0 _ rfl;have f4:=HB1.out 4 _ rfl;have f5:=HB1.out 5 _ rfl))
 go_ret
 exact ⟨ret_bool HF.out.symm,HX.out.trans hx1⟩
theorem statement_callsR (ls:List Signal) (t:T):StR ls t :=
 (T.ind (P:=fun t=>StR ls t/\∀ y∈t.l,StR ls y) (fun t ih=>⟨statement_stepR ls t ih,fun y hy=>(ih y hy).1⟩) t).1
end Go.Proofs.YtaipaccpaljecaaGreat
