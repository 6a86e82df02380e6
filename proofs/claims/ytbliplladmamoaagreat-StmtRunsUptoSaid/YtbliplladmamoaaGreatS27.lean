/- Laws and walks that a claim of this seat leans on: RefS, Ref7, Ref8. -/
import Derived.Test.YtbliplladmamoaaGreatSRef1
import Derived.Test.YtbliplladmamoaaGreatS03
import Derived.Test.YtbliplladmamoaaGreatSRef6
import Derived.Test.YtbliplladmamoaaGreatS08
import Derived.Test.YtbliplladmamoaaGreatS00
set_option maxRecDepth 100000
set_option maxHeartbeats 8000000
set_option linter.all false
namespace Go.Proofs.YtbliplladmamoaaGreat
open Go.RowKit
def Qg (ls:List Ai) (k:Nat):Prop:=∀ h:k<ls.length,(ls[k].name.toList.isEmpty=false)/\Iy ls[k]=true/\∀ j (hj:j<k),ls[j].name.toList≠ls[k].name.toList
theorem Pz (ls:List Ai):Cp [[]] ls=true↔∀ k,Qg ls k:=by
 rw [Rq]
 constructor
 ·intro h k hk
  obtain ⟨h1,h2,h3⟩:=h k hk
  exact ⟨by simpa [ByteArray.toList_eq] using h1,h2,fun j hj=>by simpa [ByteArray.toList_eq] using h3 j hj⟩
 ·intro h k hk
  obtain ⟨h1,h2,h3⟩:=h k hk
  exact ⟨by simpa [ByteArray.toList_eq] using h1,h2,fun j hj=>by simpa [ByteArray.toList_eq] using h3 j hj⟩
theorem Aar {ls:List Ai} {k:Nat} (h:¬ Qg ls k):Cp [[]] ls=false:=by
 cases e:Cp [[]] ls
 ·rfl
 ·exact absurd ((Pz ls).1 e k) h
theorem Lk (ls:List Ai) (s:Value) (w:World) (hS:Cq w s ls) (az:ls.length<=1048576) :
  Calls Tryz.prog 140 #[s] w fun r w'=>r=.returned (.bool (Cp [[]] ls))/\Ext w w':=by
 obtain ⟨a,b,o,cap,rfl,ah,a0,ha,hr⟩:=hS.open
 have HR:=Jh hr
 have HA:=Jh ha
 clear hr ha hS
 go_enter Tryz.func140,Tryz.ntmps140
 go_wp2_with fail
 go_loopw [3,4,5] (fun i _ _ wr=>∃ k:Nat,k<=ls.length/\i=.int .i64 k/\(∀ j,j<k->Qg ls j)/\Ext w wr) (fun i _ _ _=>ls.length-(intOf i).toNat)
 case atStart=>exact ⟨0,Nat.zero_le _,rfl,fun j hj=>absurd hj (by omega),Below.refl _ _⟩
 case round =>
  obtain ⟨k,hk,rfl,ae,hB⟩:=hrel
  have ac:=Jh ae
  clear ae
  by_cases au:k<ls.length
  ·have he:=Cq.get (HR.out.mono fun x _ b o h=>C6.ext' hB h) au
   obtain rfl:=HA.out (by omega)
   have al:=Jh (fun (j:Nat) (hj:j<ls.length) W (hx:Ext wr W)=>Cq.get (HR.out.mono fun x _ b o h=>C6.ext' (hB.trans hx) h) hj)
   have u:=Jh (fun (h:¬ (ls[k].name.toList.isEmpty=false/\Iy ls[k]=true/\∀ j (hj:j<k),ls[j].name.toList≠ls[k].name.toList))=>Aar (ls:=ls) (k:=k) (fun g=>h (g au)))
   have af:=Jh (fun (h:ls[k].name.toList.isEmpty=false/\Iy ls[k]=true/\∀ j (hj:j<k),ls[j].name.toList≠ls[k].name.toList)=>(show Qg ls k from fun _=>h))
   have aj:=Ab wr (.cells ls[k].cells.toArray 37)
   have aa:=Has.alloc wr ls[k].cells 37
   obtain ⟨x,hx⟩:∃ x,ls[k]=x:=⟨_,rfl⟩
   rw [hx] at he aj aa u af
   clear hx
   go_upto_region 5 with (first | ((with_reducible show Jl 37);refine Aa rfl 37 _ rfl rfl (he) Br rfl ?_) | ((with_reducible show Js 37);refine Ad rfl 37 _ _ rfl rfl (by first | rfl | simp) rfl Br (rfl) rfl (by rfl) ?_))
   generalize wr.alloc _=w2 at *
   have HB:=Jh aa
   have ab:=Jh aj
   have g0:=aa 0 _ rfl
   have g1:=aa 1 _ rfl
   have g2:=aa 2 _ rfl
   have g3:=aa 3 _ rfl
   clear aa aj he
   cases q0:x.name.toList.isEmpty with
   | true =>
    have HF:=Jh (u.out (fun h=>by rw [q0] at h;cases h.1))
    clear u
    go_wp2_with fail
    go_ret
    exact ⟨Af HF.out.symm,hB.trans ab.out⟩
   | false =>
    cases hn:Iy x with
    | false =>
     have HF:=Jh (u.out (fun h=>by rw [hn] at h;cases h.2.1))
     clear u af
     have b1:x.kind≠4->(x.kind != 4)=true:=fun h=>by rw [bne_iff_ne];exact h
     have b2:x.init≠0->(x.init != 0)=true:=fun h=>by rw [bne_iff_ne];exact h
     have B1:=Jh b1
     have B2:=Jh b2
     clear b1 b2
     have aq:x.w<1\/64<x.w\/x.kind<1\/4<x.kind\/(1<=x.w/\x.w<=64/\1<=x.kind/\x.kind<=4/\x.kind≠4/\x.init≠0):=by
      unfold Iy at hn
      by_cases h1:x.w<1
      ·exact .inl h1
      by_cases h2:64<x.w
      ·exact .inr (.inl h2)
      by_cases h3:x.kind<1
      ·exact .inr (.inr (.inl h3))
      by_cases h4:4<x.kind
      ·exact .inr (.inr (.inr (.inl h4)))
      by_cases h5:x.kind=4
      ·exfalso;simp [h5] at hn;omega
      by_cases h6:x.init=0
      ·exfalso;simp [h6] at hn;omega
      exact .inr (.inr (.inr (.inr ⟨by omega,by omega,by omega,by omega,h5,h6⟩)))
     clear hn
     rcases aq with h1 | h1 | h1 | h1 | ⟨h1,h2,h3,h4,h5,h6⟩
     rotate_left 4
     ·have b1:=B1.out h5
      have b2:=B2.out h6
      clear h5 h6
      go_wp2_with fail
      all_goals go_ret
      all_goals exact ⟨Af HF.out.symm,hB.trans ab.out⟩
     all_goals (go_wp2_with fail)
     all_goals go_ret
     all_goals exact ⟨Af HF.out.symm,hB.trans ab.out⟩
    | true =>
     have ai:=hn
     unfold Iy at ai
     simp only [Bool.and_eq_true,Bool.or_eq_true,decide_eq_true_eq] at ai
     obtain ⟨⟨⟨⟨q1,q2⟩,q3⟩,q4⟩,q5⟩:=ai
     have ao:=Jh hn
     have aw:(x.kind != 4)=false\/((x.kind != 4)=true/\(x.init != 0)=false):=by
      by_cases ag:x.kind=4
      ·exact .inl (by rw [bne_eq_false_iff_eq];exact ag)
      ·exact .inr ⟨by rw [bne_iff_ne];exact ag,by rw [bne_eq_false_iff_eq];exact q5.resolve_left ag⟩
     clear hn q5
     rcases aw with b1 | ⟨b1,b2⟩
     all_goals (
      go_upto_region 7 with fail
      clear g1 g2 g3 q1 q2 q3 q4
      go_wp2_with fail
      go_loopw [5] (fun i ay=>∃ j:Nat,j<=k/\i=.int .i64 j/\(∀ j',(ar:j'<j)->(hj2:j'<ls.length)->ls[j'].name.toList≠x.name.toList)/\Ext w2 ay) (fun i _=>k-(intOf i).toNat)
      case atStart=>exact ⟨0,Nat.zero_le _,rfl,fun j' ar=>absurd ar (by omega),Below.refl _ _⟩
      case round =>
       obtain ⟨j,hj,rfl,av,ap⟩:=hrel
       have an:=Jh av
       have ak:=Jh ap
       clear av ap
       by_cases ax:j<k
       ·have am:=Jh (al.out j (by omega))
        obtain ⟨y,hy⟩:∃ y,ls[j]=y:=⟨_,rfl⟩
        rw [hy] at am
        have HY:=Jh hy
        clear hy
        obtain ⟨c,hc⟩:∃ c,(y.name.toList==x.name.toList)=c:=⟨_,rfl⟩
        have HC:=Jh hc
        clear hc
        go_upto_region 10 with fail
        refine wp_region_held_drew (S:=fun W=>Ext w2 W) (by kernel_rfl) (Below.drew ak.out) (fun hH=>?_)
        try simp only [J]
        (refine Ji 0 _ rfl hH ?_;try simp only [J])
        (refine Ji 1 _ rfl hH ?_;try simp only [J])
        (refine Jp 2 (.pointer (some ⟨b,o+j*4,Option.none⟩)) rfl hH ?_;try simp only [J])
        (refine Jt 3 _ rfl (yif_load1 rfl (by intro W hW;clear hW;go_simp;rfl)) hH ?_;try simp only [J])
        (refine Jt 4 (.string y.name) rfl (yif_load1 rfl (by intro W hW;have y0:W.cell? ⟨b,o+j*4,none⟩=some (.string y.name):=(am.out W (ab.out.trans hW)) 0 _ rfl;clear hW;go_simp)) hH ?_;try simp only [J])
        (refine Jt 5 _ rfl (yif_load1 rfl (by intro W hW;clear hW;go_simp;rfl)) hH ?_;try simp only [J])
        (refine Jt 6 (.string x.name) rfl (yif_load1 rfl (by intro W hW;have y0:=(HB.out.ext hW) 0 _ rfl;clear hW g0;rw [Nat.add_zero] at y0;go_simp)) hH ?_;try simp only [J])
        (refine Jt 7 (.bool c) rfl (yif_load1 rfl (by intro W hW;clear hW;go_simp;exact HC.out)) hH ?_;try simp only [J])
        refine Jz ?_
        cases c
        ·go_wp2_with fail
         go_roundw
         case rel=>exact ⟨j+1,by omega,by go_num,fun j' h1 h2=>by
          by_cases e:j'=j
          ·subst e;rw [HY.out];simpa using HC.out
          ·exact an.out j' (by omega) h2,hH⟩
         case measure=>simp [intOf];omega
        ·have HF:=Jh (u.out (fun h=>h.2.2 j ax (by rw [HY.out];simpa using HC.out)))
         go_wp2_with fail
         go_ret
         exact ⟨Af HF.out.symm,hB.trans (ab.out.trans hH)⟩
       ·obtain rfl:j=k:=by omega
        have HF:=Jh (af.out ⟨q0,ao.out,fun j' h=>an.out j' h (by omega)⟩)
        clear q0
        go_wp2_with fail
        go_roundw
        case rel=>exact ⟨j+1,by omega,by go_num,fun j' h=>by
         by_cases e:j'=j
         ·subst e;exact HF.out
         ·exact ac.out j' (by omega),hB.trans (ab.out.trans ak.out)⟩
        case measure=>simp [intOf];omega)
  ·obtain rfl:k=ls.length:=by omega
   have HF:=Jh ((Pz ls).2 (fun k=>by
    by_cases h:k<ls.length
    ·exact ac.out k h
    ·exact fun h'=>absurd h' h))
   go_wp2_with fail
   go_ret
   exact ⟨Af HF.out.symm,hB⟩
theorem Qw {ls:List Ai} (af:∀ x∈ls,x.w<=64) (e:E) (aj:A7 ls e=true) (an:e.wf) (ag:nodes e<=1048576) (cs:List Value) (w:World) (hV:VE w cs e) :
  Calls Tryz.prog 106 #[.agg cs.toArray] w (Dc w (Ao e (-1))):=by
 have u:=Jh (fun W (hx:Ext w W)=>Nn af e aj ag cs W (hV.ext hx))
 have ar:=Jh (fun W (hx:Ext w W)=>Hq af e aj an ag 1 cs W (hV.ext hx) (by decide) (by decide))
 have HB:=Jh (Ue e)
 have h8:cs.length=8:=by obtain ⟨s,rfl,-⟩:=hV;rfl
 clear af aj an ag
 have hx:=(Ab w (.cells cs.toArray 40)).alloc (.cells A0.toArray 40)
 have al:=(Has.alloc w cs 40).ext (Ab _ (.cells A0.toArray 40))
 have aa:=Blk.new (w.alloc (.cells cs.toArray 40)) A0.toArray 40
 simp only [World.size_alloc] at aa
 go_enter Tryz.func106,Tryz.ntmps106
 go_upto_region 1 with fail
 generalize (w.alloc _).alloc _=w0 at *
 have HX:=Jh hx
 have K0:=Jh al
 have K1:=Jh aa
 have av:w.heap.size+1<w0.heap.size:=aa.lt
 clear hx al aa hV
 obtain ⟨q,hq⟩:∃ q,own e=q:=⟨_,rfl⟩
 rw [hq] at u HB
 clear hq
 by_cases h1:1<q
 ·have HM:=Jh (show Ao e (-1)=.error 91 by rw [HB.out,if_pos h1])
  go_wp2_with (first | ((with_reducible show Jl 40);refine Aa rfl 40 _ rfl rfl (K0.out) Ah h8 ?_) | (go_at_call 143;refine (u.out _ HX.out).mono ?_;rintro r w1 ⟨rfl,j⟩;have ae:=K1.out.ext j) | ((with_reducible show Js 40);refine Ac rfl 40 _ _ rfl ae rfl (cs:=A0) rfl Ah rfl rfl rfl ?_;intro w9 ac ab) | ((with_reducible show bodyPost _ _ _ _ _ _);refine Hid.out ?_))
  refine Jh ?_
  refine Ak rfl rfl rfl ac.has Ah rfl rfl (.inl ⟨91,HM.out,by omega,rfl,(HX.out.trans j).grown ab (by omega)⟩)
 ·have HM:=Jh (show Ao e (-1)=Ao e 1 by rw [HB.out,if_neg h1])
  go_wp2_with (first | ((with_reducible show Jl 40);refine Aa rfl 40 _ rfl rfl (ap.out) Ah h8 ?_) | ((with_reducible show Jl 40);refine Aa rfl 40 _ rfl rfl (K0.out) Ah h8 ?_) | (go_at_call 143;refine (u.out _ HX.out).mono ?_;rintro r w1 ⟨rfl,j⟩;have ap:=Jh (K0.out.ext j)) | (go_at_call 144;refine (ar.out _ (HX.out.trans j)).mono ?_;intro r w3 ai;obtain ⟨au,g,rfl,ak,am,ao,-⟩:=ai.open;have aq:=Jh ai;clear ai;have ae:=K1.out.ext (j.trans ao)) | ((with_reducible show Js 40);refine Ac rfl 40 _ _ rfl ae rfl (cs:=au) rfl Ah ak rfl am ?_;intro w9 ac ab) | ((with_reducible show bodyPost _ _ _ _ _ _);refine Hid.out ?_))
  refine Jh ?_
  have aw:=j.size
  refine Ak rfl rfl rfl ac.has Ah ak rfl ?_
  rw [HM.out]
  exact aq.out.again (HX.out.trans j) ((HX.out.trans (j.trans ao)).grown ab (by omega)) (Al.of_grown ab (by omega))
theorem Vb (ls:List Ai) (al:∀ x∈ls,x.wf) (ac:∀ x∈ls,0<=x.w) (s:Value) (w:World) (hS:Cq w s ls) :
  Calls Tryz.prog 104 #[s] w fun r w'=>r=.returned (.bool (!ls.any fun s=>!holds s.w s.init))/\Ext w w':=by
 obtain ⟨a,b,o,cap,rfl,an,ao,ha,hr⟩:=hS.open
 have HR:=Jh hr
 have HA:=Jh ha
 have am:=Jh al
 have ag:=Jh ac
 clear hr ha hS al ac
 go_enter Tryz.func104,Tryz.ntmps104
 go_wp2_with fail
 go_loopw [3] (fun i wr=>∃ k:Nat,k<=ls.length/\i=.int .i64 k/\((ls.take k).any fun s=>!holds s.w s.init)=false/\Ext w wr) (fun i _=>ls.length-(intOf i).toNat)
 case atStart=>exact ⟨0,Nat.zero_le _,rfl,rfl,Below.refl _ _⟩
 case round =>
  obtain ⟨k,hk,rfl,ab,hB⟩:=hrel
  have aa:=Jh ab
  clear ab
  by_cases ae:k<ls.length
  ·obtain rfl:=HA.out (by omega)
   have u:=Jh (fun W (hx:Ext wr W)=>Cq.get (HR.out.mono fun x _ b o h=>C6.ext' (hB.trans hx) h) ae)
   have j:=List.getElem_mem ae
   have hw:=am.out _ j
   have hp:=ag.out _ j
   have ai:=Jh (Ba ls k ae)
   obtain ⟨x,hx⟩:∃ x,ls[k]=x:=⟨_,rfl⟩
   rw [hx] at u hw hp ai j
   obtain ⟨aj,-,ak,-⟩:=hw
   have HC:=Jh (fun W=>Lg x.w x.init W ak hp aj.2)
   clear hx aj ak hp
   have HB:=Jh hB
   clear hB
   obtain ⟨c,hc⟩:∃ c,holds x.w x.init=c:=⟨_,rfl⟩
   rw [hc] at HC
   have af:=Jh hc
   clear hc
   go_upto_region 4 with fail
   refine Jg wr fun hH=>?_
   try simp only [J]
   (refine Ji 0 _ rfl hH ?_;try simp only [J])
   (refine Ji 1 _ rfl hH ?_;try simp only [J])
   (refine Jp 2 (.pointer (some ⟨b,o+k*4,Option.none⟩)) rfl hH ?_;try simp only [J])
   (refine Jt 3 _ rfl (yif_load1 rfl (by intro W hW;clear hW;go_simp;rfl)) hH ?_;try simp only [J])
   (refine Jt 4 (.int .i64 x.w) rfl (yif_load1 rfl (by intro W hW;have y0:W.cell? ⟨b,o+k*4+1,none⟩=some (.int .i64 x.w):=(u.out W hW) 1 _ rfl;clear hW;go_simp)) hH ?_;try simp only [J])
   (refine Ji 5 _ rfl hH ?_;try simp only [J])
   (refine Ji 6 _ rfl hH ?_;try simp only [J])
   (refine Jp 7 (.pointer (some ⟨b,o+k*4,Option.none⟩)) rfl hH ?_;try simp only [J])
   (refine Jt 8 _ rfl (yif_load1 rfl (by intro W hW;clear hW;go_simp;rfl)) hH ?_;try simp only [J])
   (refine Jt 9 (.int .u64 x.init) rfl (yif_load1 rfl (by intro W hW;have y0:W.cell? ⟨b,o+k*4+3,none⟩=some (.int .u64 x.init):=(u.out W hW) 3 _ rfl;clear hW;go_simp)) hH ?_;try simp only [J])
   refine Jr 10 rfl fun K hK=>?_
   go_simp
   refine (HC.out _).mono ?_
   rintro r w1 ⟨rfl,rfl⟩
   refine hK.out _ _ hH (fun hH=>?_)
   clear hK K
   try simp only [J]
   (refine Jk 11 (.bool (!c)) rfl hH ?_;try simp only [J])
   refine Jz ?_
   cases c
   ·have HF:=Jh (show (!ls.any fun s=>!holds s.w s.init)=false by
     rw [Bool.not_eq_false',List.any_eq_true];exact ⟨x,j,by rw [af.out];rfl⟩)
    go_wp2_with fail
    go_ret
    exact ⟨Af HF.out.symm,HB.out.trans hH⟩
   ·go_wp2_with fail
    go_roundw
    case rel=>exact ⟨k+1,by omega,by go_num,by rw [ai.out,List.any_append,aa.out];simp [af.out],HB.out.trans hH⟩
    case measure=>simp [intOf];omega
  ·obtain rfl:k=ls.length:=by omega
   have hf:=aa.out
   rw [List.take_length] at hf
   have HF:=Jh (show (!ls.any fun s=>!holds s.w s.init)=true by rw [hf];rfl)
   clear hf
   go_wp2_with fail
   go_ret
   exact ⟨Af HF.out.symm,hB⟩
def StR (ls:List Ai) (t:T):Prop:=∀ (s0:Value) (cs:List Value) (w:World),Cq w s0 ls->VT w cs t->t.wf ->
 Calls Tryz.prog 171 #[s0,.agg cs.toArray] w fun r w'=>r=.returned (.bool (An ls t))/\Ext w w'
theorem Gx (ls:List Ai) (l:List T) (ih:∀ x∈l,StR ls x) (af:∀ x∈l,x.wf) (s0 s:Value) (w:World) (hS:Cq w s0 ls) (h:Ts w s l) :
  Calls Tryz.prog 138 #[s0,s] w fun r w'=>r=.returned (.bool (l.all (An ls)))/\Ext w w':=by
 have IH:=Jh ih
 have ag:=Jh af
 have HS:=Jh hS
 clear ih af hS
 obtain ⟨a,b,o,cap,hs,aj,ak,ha,hr⟩:=h.open
 subst hs
 go_enter Tryz.func138,Tryz.ntmps138
 go_wp2_with fail
 go_loopw [5] (fun i wr=>∃ k:Nat,k<=l.length/\i=.int .i64 k/\(l.take k).all (An ls)=true/\Ext w wr) (fun i _=>l.length-(intOf i).toNat)
 case atStart=>exact ⟨0,Nat.zero_le _,rfl,rfl,Below.refl _ _⟩
 case round =>
  obtain ⟨k,hk,rfl,ae,hB⟩:=hrel
  have ab:=Jh ae
  clear ae
  by_cases u:k<l.length
  ·obtain ⟨cs,ac,hn,ai⟩:=VT.get (hr.mono fun x _ b o h=>TAt.ext' hB h) u
   obtain rfl:=ha (by omega)
   have j:l[k]∈l:=List.getElem_mem u
   have HC:=Jh (IH.out _ j s0 cs wr (HS.out.ext hB) ai (ag.out _ j))
   have HT:=Jh (Ba l k u)
   generalize hek:l[k]=ek at *
   cases hp:An ls ek with
   | true =>
    rw [hp] at HC
    have HP:=Jh hp
    clear hp hek
    go_wp2_with (first | ((with_reducible show Jl 44);refine Aa rfl 44 _ rfl rfl (ac) Aw hn ?_) | (go_at_call 171;refine HC.out.mono ?_;rintro r w1 ⟨rfl,aa⟩))
    go_roundw
    case rel=>exact ⟨k+1,by omega,by go_num,by rw [HT.out,List.all_append,ab.out];simp [HP.out],hB.trans aa⟩
    case measure=>simp [intOf];omega
   | false =>
    rw [hp] at HC
    have HP:=Jh (show l.all (An ls)=false from by
     rw [List.all_eq_false];exact ⟨ek,j,by simp [hp]⟩)
    clear hp hek
    go_wp2_with (first | ((with_reducible show Jl 44);refine Aa rfl 44 _ rfl rfl (ac) Aw hn ?_) | (go_at_call 171;refine HC.out.mono ?_;rintro r w1 ⟨rfl,aa⟩))
    go_ret
    exact ⟨Af HP.out.symm,hB.trans aa⟩
  ·obtain rfl:k=l.length:=by omega
   have hf:=ab.out
   rw [List.take_length] at hf
   have HF:=Jh hf
   clear hf
   go_wp2_with fail
   go_ret
   exact ⟨Af HF.out.symm,hB⟩
def Xs (ls:List Ai) (l:List T) (k:Nat):Prop:=∀ h:k<l.length,(decide (l[k].e.length=0)==decide (k+1=l.length))=true/\An.armT ls l[k]=true
theorem Qu (ls:List Ai) (l:List T):An.arms ls l=true↔∀ k,Xs ls l k:=by
 have ab:∀ j,j<=l.length->(An.arms ls (l.drop (l.length-j))=true↔∀ k,l.length-j<=k->Xs ls l k):=by
  intro j
  induction j with
  | zero =>
   intro _
   rw [Nat.sub_zero,List.drop_length]
   exact ⟨fun _ k hk h=>absurd h (by omega),fun _=>rfl⟩
  | succ j ih =>
   intro hj
   have u:l.length-(j+1)<l.length:=by omega
   rw [An.arms_drop ls l _ u,Bool.and_eq_true,Bool.and_eq_true]
   have e:l.length-(j+1)+1=l.length-j:=by omega
   rw [e,ih (by omega)]
   constructor
   ·rintro ⟨⟨h1,h2⟩,h3⟩ k hk
    by_cases aa:k=l.length-(j+1)
    ·subst aa
     intro h
     rw [e]
     exact ⟨h1,h2⟩
    ·exact h3 k (by omega)
   ·intro h
    have h0:=h _ (Nat.le_refl _) u
    rw [e] at h0
    exact ⟨h0,fun k hk=>h k (by omega)⟩
 have:=ab l.length (Nat.le_refl _)
 rw [Nat.sub_self,List.drop_zero] at this
 rw [this]
 exact ⟨fun h k=>h k (Nat.zero_le _),fun h k _=>h k⟩
theorem Adf {ls:List Ai} {l:List T} {k:Nat} (h:¬ Xs ls l k):An.arms ls l=false:=by
 cases e:An.arms ls l
 ·rfl
 ·exact absurd ((Qu ls l).1 e k) h
theorem Xv (ls:List Ai) (l:List T) (ih:∀ x∈l,∀ y∈x.l,StR ls y) (bf:∀ x∈l,x.wf) (s0 s:Value) (w:World) (hS:Cq w s0 ls) (h:Ts w s l) :
  Calls Tryz.prog 194 #[s0,s] w fun r w'=>r=.returned (.bool (An.arms ls l&&decide (0<l.length)))/\Ext w w':=by
 have IH:=Jh ih
 have bo:=Jh bf
 have HS:=Jh hS
 clear ih bf hS
 obtain ⟨a,b,o,cap,hs,bv,bw,ha,hr⟩:=h.open
 subst hs
 have HR:=Jh hr
 have HA:=Jh ha
 clear hr ha h
 go_enter Tryz.func194,Tryz.ntmps194
 go_wp2_with fail
 go_loopw [5,6,7] (fun i _ _ wr=>∃ k:Nat,k<=l.length/\i=.int .i64 k/\(∀ j,j<k->Xs ls l j)/\Ext w wr) (fun i _ _ _=>l.length-(intOf i).toNat)
 case atStart=>exact ⟨0,Nat.zero_le _,rfl,fun j hj=>absurd hj (by omega),Below.refl _ _⟩
 case round =>
  obtain ⟨k,hk,rfl,aq,hB⟩:=hrel
  have al:=Jh aq
  clear aq
  by_cases a4:k<l.length
  ·obtain ⟨cs,bc,hn,bd⟩:=VT.get (HR.out.mono fun x _ b o h=>TAt.ext' hB h) a4
   obtain rfl:=HA.out (by omega)
   have af:l[k]∈l:=List.getElem_mem a4
   have av:=IH.out _ af
   have a5:=bo.out _ af
   have u:=Jh (fun (h:¬ ((decide (l[k].e.length=0)==decide (k+1=l.length))=true/\An.armT ls l[k]=true))=>(show (An.arms ls l&&decide (0<l.length))=false by rw [Adf (k:=k) (fun g=>h (g a4))];rfl))
   have a6:=Jh (fun (h:(decide (l[k].e.length=0)==decide (k+1=l.length))=true/\An.armT ls l[k]=true)=>(show Xs ls l k from fun _=>h))
   obtain ⟨t,ht⟩:∃ t,l[k]=t:=⟨_,rfl⟩
   rw [ht] at bd av a5 u a6
   clear ht af
   obtain ⟨op,sig,hi,lo,e,tl⟩:=t
   obtain ⟨se,sl,rfl,ar,aw⟩:=bd
   have ap:=An.armT_eq ls ⟨op,sig,hi,lo,e,tl⟩
   simp only at ap ar aw av
   have ab:=Jh ap
   obtain ⟨w1,w2,w3,w4,w5,w6⟩:=(T.wf_iff _).1 a5
   simp only at w5 w6
   have HE:=Jh ar
   have aj:=Jh (fun W (hx:Ext wr W)=>Ix ls e (fun x _=>Hj ls x) w5 s0 se W (HS.out.ext (hB.trans hx)) (ar.ext hx))
   have am:=Jh (fun W (hx:Ext wr W)=>Gx ls tl av w6 s0 sl W (HS.out.ext (hB.trans hx)) (aw.ext hx))
   obtain ⟨a1,b1,o1,an,rfl,bx,bz,bb,be⟩:=ar.open
   have bi:=Jh bb
   have bm:=Jh be
   have a7:=Jh (show (T.cells ⟨op,sig,hi,lo,e,tl⟩ (.slice a1 e.length an) sl).all (·.oneCell')=true by simp [aw.one,Bc,HE.out.one])
   clear bb be ar aw av a5 ap w1 w2 w3 w4 w5 w6 HE
   have bg:=Ab wr (.cells (T.cells ⟨op,sig,hi,lo,e,tl⟩ (.slice a1 e.length an) sl).toArray 44)
   have ag:=Has.alloc wr (T.cells ⟨op,sig,hi,lo,e,tl⟩ (.slice a1 e.length an) sl) 44
   go_upto_region 5 with (first | ((with_reducible show Jl 44);refine Aa rfl 44 _ rfl rfl (bc) Aw hn ?_) | ((with_reducible show Js 44);refine Ad rfl 44 _ _ rfl rfl (by first | rfl | simp) rfl Aw (hn) rfl (a7.out) ?_))
   generalize wr.alloc _=w2 at *
   have a0:=Jh ag
   have aa:=Jh bg
   have g0:=ag 0 _ rfl
   have g1:=ag 1 _ rfl
   have g2:=ag 2 _ rfl
   have g3:=ag 3 _ rfl
   have g4:=ag 4 _ rfl
   clear ag bg bc
   by_cases az:op=4
   rotate_left
   ·have bu:(op != 4)=true:=by rw [bne_iff_ne];exact az
    have Q:=Jh az
    clear az
    have HF:=Jh (u.out (fun h=>by have h2:=h.2;rw [ab.out] at h2;simp only [Bool.and_eq_true,decide_eq_true_eq] at h2;exact Q.out (by omega)))
    go_wp2_with fail
    go_ret
    exact ⟨Af HF.out.symm,hB.trans aa.out⟩
   subst az
   by_cases ai:sig=0
   rotate_left
   ·have br:(sig != 0)=true:=by rw [bne_iff_ne];exact ai
    have Q:=Jh ai
    clear ai
    have HF:=Jh (u.out (fun h=>by have h2:=h.2;rw [ab.out] at h2;simp only [Bool.and_eq_true,decide_eq_true_eq] at h2;exact Q.out (by omega)))
    go_wp2_with fail
    go_ret
    exact ⟨Af HF.out.symm,hB.trans aa.out⟩
   subst ai
   by_cases ax:hi=0
   rotate_left
   ·have bs:(hi != 0)=true:=by rw [bne_iff_ne];exact ax
    have Q:=Jh ax
    clear ax
    have HF:=Jh (u.out (fun h=>by have h2:=h.2;rw [ab.out] at h2;simp only [Bool.and_eq_true,decide_eq_true_eq] at h2;exact Q.out (by omega)))
    go_wp2_with fail
    go_ret
    exact ⟨Af HF.out.symm,hB.trans aa.out⟩
   subst ax
   by_cases ay:lo=0
   rotate_left
   ·have bt:(lo != 0)=true:=by rw [bne_iff_ne];exact ay
    have Q:=Jh ay
    clear ay
    have HF:=Jh (u.out (fun h=>by have h2:=h.2;rw [ab.out] at h2;simp only [Bool.and_eq_true,decide_eq_true_eq] at h2;exact Q.out (by omega)))
    go_wp2_with fail
    go_ret
    exact ⟨Af HF.out.symm,hB.trans aa.out⟩
   subst ay
   by_cases qe:(decide (e.length=0)==decide (k+1=l.length))=true
   rotate_left
   ·have HF:=Jh (u.out (fun h=>qe h.1))
    have c1:((((e.length:Nat):Int)==0)==(((k:Nat):Int)==((l.length:Nat):Int)-1))=false:=by
     have e1:(((e.length:Nat):Int)==0)=decide (e.length=0):=by rw [Bool.eq_iff_iff];simp
     have e2:(((k:Nat):Int)==((l.length:Nat):Int)-1)=decide (k+1=l.length):=by rw [Bool.eq_iff_iff];simp;omega
     rw [e1,e2]
     revert qe
     cases decide (e.length=0)<;>cases decide (k+1=l.length)<;>simp
    clear qe
    go_wp2_with fail
    go_ret
    exact ⟨Af HF.out.symm,hB.trans aa.out⟩
   have c1:((((e.length:Nat):Int)==0)==(((k:Nat):Int)==((l.length:Nat):Int)-1))=true:=by
    have e1:(((e.length:Nat):Int)==0)=decide (e.length=0):=by rw [Bool.eq_iff_iff];simp
    have e2:(((k:Nat):Int)==((l.length:Nat):Int)-1)=decide (k+1=l.length):=by rw [Bool.eq_iff_iff];simp;omega
    rw [e1,e2]
    revert qe
    cases decide (e.length=0)<;>cases decide (k+1=l.length)<;>simp
   have QE:=Jh qe
   clear qe
   cases hsh:e.all (A7 ls) with
   | false =>
    have HF:=Jh (u.out (fun h=>by
     have h2:=h.2;rw [ab.out] at h2;simp only [Bool.and_eq_true,decide_eq_true_eq] at h2
     have h3:=h2.1.2
     rw [List.all_eq_true] at h3
     have h4:e.all (A7 ls)=true:=List.all_eq_true.2 fun x hx=>by have:=h3 x hx;simp only [Bool.and_eq_true] at this;exact this.2
     rw [hsh] at h4;cases h4))
    rw [hsh] at aj
    clear hsh
    go_wp2_with (first | (go_at_call 174;refine (aj.out _ aa.out).mono ?_;rintro r w3 ⟨rfl,ae⟩))
    go_ret
    exact ⟨Af HF.out.symm,hB.trans (aa.out.trans ae)⟩
   | true =>
    rw [hsh] at aj
    have a8:=Jh hsh
    clear hsh
    cases hst:tl.all (An ls) with
    | false =>
     have HF:=Jh (u.out (fun h=>by have h2:=h.2;rw [ab.out] at h2;simp only [Bool.and_eq_true,decide_eq_true_eq] at h2;rw [hst] at h2;cases h2.2))
     rw [hst] at am
     clear hst
     go_wp2_with (first | (go_at_call 174;refine (aj.out _ aa.out).mono ?_;rintro r w3 ⟨rfl,ae⟩;have y5:=(a0.out.ext ae) 5 _ rfl) | (go_at_call 138;refine (am.out _ (aa.out.trans ae)).mono ?_;rintro r w4 ⟨rfl,au⟩))
     go_ret
     exact ⟨Af HF.out.symm,hB.trans (aa.out.trans (ae.trans au))⟩
    | true =>
     rw [hst] at am
     have a9:=Jh hst
     clear hst
     go_upto_region 7 with (first | (go_at_call 174;refine (aj.out _ aa.out).mono ?_;rintro r w3 ⟨rfl,ae⟩;have y5:=(a0.out.ext ae) 5 _ rfl) | (go_at_call 138;refine (am.out _ (aa.out.trans ae)).mono ?_;rintro r w4 ⟨rfl,au⟩))
     have bk:=Jh (a0.out.ext (ae.trans au))
     have a2:=Jh (aa.out.trans (ae.trans au))
     clear g0 g1 g2 g3 g4 y5 ae au c1 aj am
     go_wp2_with fail
     go_loopw [7] (fun i bq=>∃ j:Nat,j<=e.length/\i=.int .i64 j/\((e.take j).all fun x=>decide (x.op=1))=true/\Ext w4 bq) (fun i _=>e.length-(intOf i).toNat)
     case atStart=>exact ⟨0,Nat.zero_le _,rfl,rfl,Below.refl _ _⟩
     case round =>
      obtain ⟨j,hj,rfl,ac,ao⟩:=hrel
      have ah:=Jh ac
      have bl:=Jh (bk.out.ext ao)
      have y4:=bl.out 4 _ rfl
      clear ac
      by_cases a3:j<e.length
      ·obtain rfl:=bi.out (by omega)
       obtain ⟨sx,q1,-⟩:=Es.get (bm.out.mono fun x _ b o h=>EAt.ext' (a2.out.trans ao) h) a3
       have yx:=q1 0 _ rfl
       rw [Nat.add_zero] at yx
       have ba:=Jh (Ba e j a3)
       have af:=List.getElem_mem a3
       obtain ⟨x,hx⟩:∃ x,e[j]=x:=⟨_,rfl⟩
       rw [hx] at yx ba af
       clear hx q1
       by_cases ak:x.op=1
       ·have cx:(x.op != 1)=false:=by rw [bne_eq_false_iff_eq];exact ak
        have bp:=Jh ak
        clear ak
        go_wp2_with fail
        go_roundw
        case rel=>exact ⟨j+1,by omega,by go_num,by rw [ba.out,List.all_append,ah.out];simp [bp.out],ao⟩
        case measure=>simp [intOf];omega
       ·have cx:(x.op != 1)=true:=by rw [bne_iff_ne];exact ak
        have HF:=Jh (u.out (fun h=>by
         have h2:=h.2;rw [ab.out] at h2;simp only [Bool.and_eq_true,decide_eq_true_eq] at h2
         have h3:=List.all_eq_true.1 h2.1.2 x af
         simp only [Bool.and_eq_true,decide_eq_true_eq] at h3
         exact ak h3.1))
        clear ak
        go_wp2_with fail
        go_ret
        exact ⟨Af HF.out.symm,hB.trans (a2.out.trans ao)⟩
      ·obtain rfl:j=e.length:=by omega
       have ac:=ah.out
       rw [List.take_length] at ac
       have HG:=Jh (a6.out ⟨QE.out,by
        rw [ab.out]
        simp only [Bool.and_eq_true,decide_eq_true_eq]
        refine ⟨⟨⟨⟨⟨by trivial,by trivial⟩,by trivial⟩,by trivial⟩,?_⟩,a9.out⟩
        rw [List.all_eq_true] at ac ⊢
        intro x hx
        have h1:=ac x hx
        have h2:=List.all_eq_true.1 a8.out x hx
        simp only [decide_eq_true_eq] at h1
        simp [h1,h2]⟩)
       clear ac
       go_wp2_with fail
       go_roundw
       case rel=>exact ⟨k+1,by omega,by go_num,fun j' h=>by
        by_cases e':j'=k
        ·subst e';exact HG.out
        ·exact al.out j' (by omega),hB.trans (a2.out.trans ao)⟩
       case measure=>simp [intOf];omega
  ·obtain rfl:k=l.length:=by omega
   have ha:An.arms ls l=true:=(Qu ls l).2 (fun k=>by
    by_cases h:k<l.length
    ·exact al.out k h
    ·exact fun h'=>absurd h' h)
   have bj:=Jh ha
   clear ha
   go_wp2_with fail
   go_ret
   exact ⟨Af (by rw [bj.out,Bool.true_and];refine Bool.eq_iff_iff.2 ?_;simp;omega),hB⟩
theorem Qb (ls:List Ai) (t:T) (ih:∀ x∈t.l,StR ls x/\∀ y∈x.l,StR ls y):StR ls t:=by
 intro s0 cs w hS hV ba
 have az:=Ff ls t
 have h6:=(T.wf_iff t).1 ba
 obtain ⟨op,sig,hi,lo,e,l⟩:=t
 simp only at ih az h6
 obtain ⟨-,a9,-,-,a6,au⟩:=h6
 obtain ⟨se,sl,rfl,ay,al⟩:=hV
 have ab:=Jh (fun W (hx:Ext w W)=>Ix ls e (fun x _=>Hj ls x) a6 s0 se W (hS.ext hx) (ay.ext hx))
 have a4:=Jh (fun W (hx:Ext w W)=>Gx ls l (fun x hx=>(ih x hx).1) au s0 sl W (hS.ext hx) (al.ext hx))
 have bc:=Jh (fun W (hx:Ext w W)=>Xv ls l (fun x hx=>(ih x hx).2) au s0 sl W (hS.ext hx) (al.ext hx))
 have ak:=Jh (fun W (hx:Ext w W)=>Pu ls s0 sig hi lo W (hS.ext hx) a9)
 obtain ⟨a1,b1,o1,ao,rfl,bl,bm,be,bf⟩:=ay.open
 obtain ⟨a2,b2,o2,ap,rfl,bo,bp,a5,a8⟩:=al.open
 have bb:=Jh a5
 have a3:=Jh a8
 have HM:=Jh az
 have hx:=Ab w (.cells (T.cells ⟨op,sig,hi,lo,e,l⟩ (.slice a1 e.length ao) (.slice a2 l.length ap)).toArray 44)
 have hb:=Has.alloc w (T.cells ⟨op,sig,hi,lo,e,l⟩ (.slice a1 e.length ao) (.slice a2 l.length ap)) 44
 clear ih az hS ay al ba a6 au a9 be bf a5 a8
 go_enter Tryz.func171,Tryz.ntmps171
 go_upto_region 1 with fail
 generalize w.alloc _=w0 at *
 have HX:=Jh hx
 have HB:=Jh hb
 have g0:=hb 0 _ rfl
 have g1:=hb 1 _ rfl
 have g2:=hb 2 _ rfl
 have g3:=hb 3 _ rfl
 have g4:=hb 4 _ rfl
 clear hx hb
 have ah:=Jh (fun (h:e.all (A7 ls)=false)=>(show An ls ⟨op,sig,hi,lo,e,l⟩=false by
  rw [HM.out,if_pos]
  rw [Bool.or_eq_true]
  left
  rw [List.any_eq_true]
  obtain ⟨x,hx,hs⟩:=List.all_eq_false.1 h
  exact ⟨x,hx,by simpa using hs⟩))
 have ai:=Jh (fun (h:e.all (A7 ls)=true)=>(show (e.any fun x=>!A7 ls x)=false by
  rw [List.any_eq_false]
  intro x hx
  have:=List.all_eq_true.1 h x hx
  simp [this]))
 obtain ⟨sb,ax⟩:∃ sb,e.all (A7 ls)=sb:=⟨_,rfl⟩
 rw [ax] at ab
 have ac:=Jh ax
 clear ax
 by_cases o1:op=1
 ·subst o1
  have c0:((1:Int) != 1)=false:=rfl
  cases sb
  ·have HF:=Jh (ah.out ac.out)
   go_wp2_with (first | (go_at_call 174;refine (ab.out _ HX.out).mono ?_;rintro r w1 ⟨rfl,u⟩;have j:=Jh (HB.out.ext u);have f0:=j.out 0 _ rfl;have f4:=j.out 4 _ rfl;have f5:=j.out 5 _ rfl))
   go_ret
   exact ⟨Af HF.out.symm,HX.out.trans u⟩
  have aa:=Jh (show An ls ⟨1,sig,hi,lo,e,l⟩=(decide (e.length=1)&&decide (l.length=0)&&slice ls sig hi lo) by
   rw [HM.out,ai.out ac.out];simp)
  obtain ⟨pb,a7⟩:∃ pb,slice ls sig hi lo=pb:=⟨_,rfl⟩
  rw [a7] at ak aa
  clear a7
  cases pb
  ·have HF:=Jh (show An ls ⟨1,sig,hi,lo,e,l⟩=false by rw [aa.out];simp)
   go_wp2_with (first | (go_at_call 174;refine (ab.out _ HX.out).mono ?_;rintro r w1 ⟨rfl,u⟩;have j:=Jh (HB.out.ext u);have f0:=j.out 0 _ rfl;have f4:=j.out 4 _ rfl;have f5:=j.out 5 _ rfl;have f1:=j.out 1 _ rfl;have f2:=j.out 2 _ rfl;have f3:=j.out 3 _ rfl) | (go_at_call 193;refine (ak.out _ (HX.out.trans u)).mono ?_;rintro r w2 ⟨rfl,rfl⟩))
   go_ret
   exact ⟨Af HF.out.symm,HX.out.trans u⟩
  ·by_cases he:e.length=1
   ·have ce:(((e.length:Nat):Int)==1)=true:=by rw [beq_iff_eq];omega
    have aq:=Jh he
    clear he
    go_wp2_with (first | (go_at_call 174;refine (ab.out _ HX.out).mono ?_;rintro r w1 ⟨rfl,u⟩;have j:=Jh (HB.out.ext u);have f0:=j.out 0 _ rfl;have f4:=j.out 4 _ rfl;have f5:=j.out 5 _ rfl;have f1:=j.out 1 _ rfl;have f2:=j.out 2 _ rfl;have f3:=j.out 3 _ rfl) | (go_at_call 193;refine (ak.out _ (HX.out.trans u)).mono ?_;rintro r w2 ⟨rfl,rfl⟩))
    all_goals go_ret
    all_goals exact ⟨Af (by rw [aa.out,aq.out];refine Bool.eq_iff_iff.2 ?_;simp),HX.out.trans u⟩
   ·have ce:(((e.length:Nat):Int)==1)=false:=by rw [beq_eq_false_iff_ne];omega
    have HF:=Jh (show An ls ⟨1,sig,hi,lo,e,l⟩=false by rw [aa.out];simp [he])
    clear he
    go_wp2_with (first | (go_at_call 174;refine (ab.out _ HX.out).mono ?_;rintro r w1 ⟨rfl,u⟩;have j:=Jh (HB.out.ext u);have f0:=j.out 0 _ rfl;have f4:=j.out 4 _ rfl;have f5:=j.out 5 _ rfl;have f1:=j.out 1 _ rfl;have f2:=j.out 2 _ rfl;have f3:=j.out 3 _ rfl) | (go_at_call 193;refine (ak.out _ (HX.out.trans u)).mono ?_;rintro r w2 ⟨rfl,rfl⟩))
    go_ret
    exact ⟨Af HF.out.symm,HX.out.trans u⟩
 have c0:(op != 1)=true:=by rw [bne_iff_ne];exact o1
 have O1:=Jh o1
 clear o1
 by_cases ae:sig=0
 rotate_left
 ·have bg:(sig != 0)=true:=by rw [bne_iff_ne];exact ae
  have HF:=Jh (show An ls ⟨op,sig,hi,lo,e,l⟩=false by rw [HM.out,if_pos];simp [O1.out,ae])
  clear ae
  go_wp2_with fail
  go_ret
  exact ⟨Af HF.out.symm,HX.out⟩
 subst ae
 by_cases am:hi=0
 rotate_left
 ·have bj:(hi != 0)=true:=by rw [bne_iff_ne];exact am
  have HF:=Jh (show An ls ⟨op,0,hi,lo,e,l⟩=false by rw [HM.out,if_pos];simp [O1.out,am])
  clear am
  go_wp2_with fail
  go_ret
  exact ⟨Af HF.out.symm,HX.out⟩
 subst am
 by_cases an:lo=0
 rotate_left
 ·have bk:(lo != 0)=true:=by rw [bne_iff_ne];exact an
  have HF:=Jh (show An ls ⟨op,0,0,lo,e,l⟩=false by rw [HM.out,if_pos];simp [O1.out,an])
  clear an
  go_wp2_with fail
  go_ret
  exact ⟨Af HF.out.symm,HX.out⟩
 subst an
 cases sb
 ·have HF:=Jh (ah.out ac.out)
  go_wp2_with (first | (go_at_call 174;refine (ab.out _ HX.out).mono ?_;rintro r w1 ⟨rfl,u⟩;have j:=Jh (HB.out.ext u);have f0:=j.out 0 _ rfl;have f4:=j.out 4 _ rfl;have f5:=j.out 5 _ rfl))
  go_ret
  exact ⟨Af HF.out.symm,HX.out.trans u⟩
 by_cases o3:op=3
 ·subst o3
  have aa:=Jh (show An ls ⟨3,0,0,0,e,l⟩=(decide (e.length=1)&&(An.arms ls l&&decide (0<l.length))) by
   rw [HM.out,ai.out ac.out];simp)
  by_cases he:e.length=1
  ·have ce:(((e.length:Nat):Int)==1)=true:=by rw [beq_iff_eq];omega
   have HF:=Jh (show An ls ⟨3,0,0,0,e,l⟩=(An.arms ls l&&decide (0<l.length)) by rw [aa.out];simp [he])
   clear he
   go_wp2_with (first | (go_at_call 174;refine (ab.out _ HX.out).mono ?_;rintro r w1 ⟨rfl,u⟩;have j:=Jh (HB.out.ext u);have f0:=j.out 0 _ rfl;have f4:=j.out 4 _ rfl;have f5:=j.out 5 _ rfl) | (go_at_call 194;refine (bc.out _ (HX.out.trans u)).mono ?_;rintro r w2 ⟨rfl,aj⟩))
   go_ret
   exact ⟨Af HF.out.symm,HX.out.trans (u.trans aj)⟩
  ·have ce:(((e.length:Nat):Int)==1)=false:=by rw [beq_eq_false_iff_ne];omega
   have HF:=Jh (show An ls ⟨3,0,0,0,e,l⟩=false by rw [aa.out];simp [he])
   clear he
   go_wp2_with (first | (go_at_call 174;refine (ab.out _ HX.out).mono ?_;rintro r w1 ⟨rfl,u⟩;have j:=Jh (HB.out.ext u);have f0:=j.out 0 _ rfl;have f4:=j.out 4 _ rfl;have f5:=j.out 5 _ rfl))
   go_ret
   exact ⟨Af HF.out.symm,HX.out.trans u⟩
 by_cases o5:op=5
 ·subst o5
  have aa:=Jh (show An ls ⟨5,0,0,0,e,l⟩=(decide (e.length=0)&&l.all (An ls)) by
   rw [HM.out,ai.out ac.out];simp)
  by_cases he:e.length=0
  ·have ce:(((e.length:Nat):Int)==0)=true:=by rw [beq_iff_eq];omega
   have HF:=Jh (show An ls ⟨5,0,0,0,e,l⟩=l.all (An ls) by rw [aa.out];simp [he])
   clear he
   go_wp2_with (first | (go_at_call 174;refine (ab.out _ HX.out).mono ?_;rintro r w1 ⟨rfl,u⟩;have j:=Jh (HB.out.ext u);have f0:=j.out 0 _ rfl;have f4:=j.out 4 _ rfl;have f5:=j.out 5 _ rfl) | (go_at_call 138;refine (a4.out _ (HX.out.trans u)).mono ?_;rintro r w2 ⟨rfl,aj⟩))
   go_ret
   exact ⟨Af HF.out.symm,HX.out.trans (u.trans aj)⟩
  ·have ce:(((e.length:Nat):Int)==0)=false:=by rw [beq_eq_false_iff_ne];omega
   have HF:=Jh (show An ls ⟨5,0,0,0,e,l⟩=false by rw [aa.out];simp [he])
   clear he
   go_wp2_with (first | (go_at_call 174;refine (ab.out _ HX.out).mono ?_;rintro r w1 ⟨rfl,u⟩;have j:=Jh (HB.out.ext u);have f0:=j.out 0 _ rfl;have f4:=j.out 4 _ rfl;have f5:=j.out 5 _ rfl))
   go_ret
   exact ⟨Af HF.out.symm,HX.out.trans u⟩
 by_cases o2:op=2
 ·subst o2
  have aa:=Jh (show An ls ⟨2,0,0,0,e,l⟩=((decide (e.length=1)&&decide (l.length=2)&&(l.all fun x=>decide (x.op=5)))&&l.all (An ls)) by
   rw [HM.out,ai.out ac.out];simp)
  by_cases he:e.length=1
  rotate_left
  ·have ce:(((e.length:Nat):Int)==1)=false:=by rw [beq_eq_false_iff_ne];omega
   have HF:=Jh (show An ls ⟨2,0,0,0,e,l⟩=false by rw [aa.out];simp [he])
   clear he
   go_wp2_with (first | (go_at_call 174;refine (ab.out _ HX.out).mono ?_;rintro r w1 ⟨rfl,u⟩;have j:=Jh (HB.out.ext u);have f0:=j.out 0 _ rfl;have f4:=j.out 4 _ rfl;have f5:=j.out 5 _ rfl))
   go_ret
   exact ⟨Af HF.out.symm,HX.out.trans u⟩
  have ce:(((e.length:Nat):Int)==1)=true:=by rw [beq_iff_eq];omega
  have aq:=Jh he
  clear he
  by_cases hl:l.length=2
  rotate_left
  ·have cl:(((l.length:Nat):Int)==2)=false:=by rw [beq_eq_false_iff_ne];omega
   have HF:=Jh (show An ls ⟨2,0,0,0,e,l⟩=false by rw [aa.out];simp [hl])
   clear hl
   go_wp2_with (first | (go_at_call 174;refine (ab.out _ HX.out).mono ?_;rintro r w1 ⟨rfl,u⟩;have j:=Jh (HB.out.ext u);have f0:=j.out 0 _ rfl;have f4:=j.out 4 _ rfl;have f5:=j.out 5 _ rfl))
   go_ret
   exact ⟨Af HF.out.symm,HX.out.trans u⟩
  obtain ⟨x,y,rfl⟩:=Ahg hl
  obtain rfl:=bb.out (by simp)
  obtain ⟨sx,bq,av,-,-⟩:=Ts.get (a3.out.mono fun x _ b o h=>TAt.ext' (Below.refl _ _) h) (k:=0) (by simp)
  obtain ⟨sy,br,aw,-,-⟩:=Ts.get (a3.out.mono fun x _ b o h=>TAt.ext' (Below.refl _ _) h) (k:=1) (by simp)
  simp only [Jb,Jc,Nat.zero_mul,Nat.add_zero,Nat.one_mul] at av aw
  have ar:=Jh (av.ext HX.out)
  have a0:=Jh (aw.ext HX.out)
  have bi:Hid ((2:Nat)=2):=Jh rfl
  clear hl av aw
  simp only [List.length_cons,List.length_nil,Nat.zero_add,Nat.reduceAdd] at *
  by_cases af:x.op=5
  rotate_left
  ·have cx:(x.op==5)=false:=by rw [beq_eq_false_iff_ne];exact af
   have HF:=Jh (show An ls ⟨2,0,0,0,e,[x,y]⟩=false by rw [aa.out];simp [af])
   clear af
   go_wp2_with (first | (go_at_call 174;refine (ab.out _ HX.out).mono ?_;rintro r w1 ⟨rfl,u⟩;have j:=Jh (HB.out.ext u);have f0:=j.out 0 _ rfl;have f4:=j.out 4 _ rfl;have f5:=j.out 5 _ rfl;have yx:=(ar.out.ext u) 0 _ rfl;rw [Nat.add_zero] at yx))
   go_ret
   exact ⟨Af HF.out.symm,HX.out.trans u⟩
  have cx:(x.op==5)=true:=by rw [beq_iff_eq];exact af
  have bd:=Jh af
  clear af
  by_cases ag:y.op=5
  rotate_left
  ·have cy:(y.op==5)=false:=by rw [beq_eq_false_iff_ne];exact ag
   have HF:=Jh (show An ls ⟨2,0,0,0,e,[x,y]⟩=false by rw [aa.out];simp [ag])
   clear ag
   go_wp2_with (first | (go_at_call 174;refine (ab.out _ HX.out).mono ?_;rintro r w1 ⟨rfl,u⟩;have j:=Jh (HB.out.ext u);have f0:=j.out 0 _ rfl;have f4:=j.out 4 _ rfl;have f5:=j.out 5 _ rfl;have yx:=(ar.out.ext u) 0 _ rfl;rw [Nat.add_zero] at yx;have yy:=(a0.out.ext u) 0 _ rfl;rw [Nat.add_zero] at yy))
   go_ret
   exact ⟨Af HF.out.symm,HX.out.trans u⟩
  have cy:(y.op==5)=true:=by rw [beq_iff_eq];exact ag
  have HF:=Jh (show An ls ⟨2,0,0,0,e,[x,y]⟩=(An ls x&&An ls y) by rw [aa.out];simp [bd.out,ag,aq.out])
  clear ag
  go_wp2_with (first | (go_at_call 174;refine (ab.out _ HX.out).mono ?_;rintro r w1 ⟨rfl,u⟩;have j:=Jh (HB.out.ext u);have f0:=j.out 0 _ rfl;have f4:=j.out 4 _ rfl;have f5:=j.out 5 _ rfl;have yx:=(ar.out.ext u) 0 _ rfl;rw [Nat.add_zero] at yx;have yy:=(a0.out.ext u) 0 _ rfl;rw [Nat.add_zero] at yy) | (go_at_call 138;refine (a4.out _ (HX.out.trans u)).mono ?_;rintro r w2 ⟨rfl,aj⟩))
  go_ret
  exact ⟨Af HF.out.symm,HX.out.trans (u.trans aj)⟩
 have HF:=Jh (show An ls ⟨op,0,0,0,e,l⟩=false by
  rw [HM.out,ai.out ac.out];simp [O1.out,o2,o3,o5])
 have c1:(op==1)=false:=by rw [beq_eq_false_iff_ne];exact O1.out
 have c2:(op==2)=false:=by rw [beq_eq_false_iff_ne];exact o2
 have c3:(op==3)=false:=by rw [beq_eq_false_iff_ne];exact o3
 have c5:(op==5)=false:=by rw [beq_eq_false_iff_ne];exact o5
 clear o2 o3 o5
 go_wp2_with (first | (go_at_call 174;refine (ab.out _ HX.out).mono ?_;rintro r w1 ⟨rfl,u⟩;have j:=Jh (HB.out.ext u);have f0:=j.out 0 _ rfl;have f4:=j.out 4 _ rfl;have f5:=j.out 5 _ rfl))
 go_ret
 exact ⟨Af HF.out.symm,HX.out.trans u⟩
theorem Pb (ls:List Ai) (t:T):StR ls t :=
 (T.ind (P:=fun t=>StR ls t/\∀ y∈t.l,StR ls y) (fun t ih=>⟨Qb ls t ih,fun y hy=>(ih y hy).1⟩) t).1
end Go.Proofs.YtbliplladmamoaaGreat
