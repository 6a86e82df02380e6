/- Laws and walks that a claim of this seat leans on: Ref2, Ref3, Ref4, Ref5. -/
import Derived.Test.YtbliplladmamoaaGreatSRef1
import Derived.Test.YtbliplladmamoaaGreatS02
import Derived.Test.YtbliplladmamoaaGreatS08
import Derived.Test.YtbliplladmamoaaGreatSStmtS
import Derived.Test.YtbliplladmamoaaGreatS16
import Derived.Test.YtbliplladmamoaaGreatS00
set_option maxRecDepth 100000
set_option maxHeartbeats 8000000
set_option linter.all false
namespace Go.Proofs.YtbliplladmamoaaGreat
open Go.RowKit
def Qq (ls:List Ai) (x:E):Prop:=∀ (s0:Value) (cs:List Value) (w:World),Cq w s0 ls->VE w cs x->x.wf ->
 Calls Tryz.prog 139 #[s0,.agg cs.toArray] w fun r w'=>r=.returned (.bool (A7 ls x))/\Ext w w'
theorem Ix (ls:List Ai) (l:List E) (ih:∀ x∈l,Qq ls x) (af:∀ x∈l,x.wf) (s0 s:Value) (w:World) (hS:Cq w s0 ls) (h:Es w s l) :
  Calls Tryz.prog 174 #[s0,s] w fun r w'=>r=.returned (.bool (l.all (A7 ls)))/\Ext w w':=by
 have IH:=Jh ih
 have ag:=Jh af
 have HS:=Jh hS
 clear ih af hS
 obtain ⟨a,b,o,cap,hs,aj,ak,ha,hr⟩:=h.open
 subst hs
 go_enter Tryz.func174,Tryz.ntmps174
 go_wp2_with fail
 go_loopw [5] (fun i wr=>∃ k:Nat,k<=l.length/\i=.int .i64 k/\(l.take k).all (A7 ls)=true/\Ext w wr) (fun i _=>l.length-(intOf i).toNat)
 case atStart=>exact ⟨0,Nat.zero_le _,rfl,rfl,Below.refl _ _⟩
 case round =>
  obtain ⟨k,hk,rfl,ae,hB⟩:=hrel
  have ab:=Jh ae
  clear ae
  by_cases u:k<l.length
  ·obtain ⟨cs,ac,hn,ai⟩:=VE.get (hr.mono fun x _ b o h=>EAt.ext' hB h) u
   obtain rfl:=ha (by omega)
   have j:l[k]∈l:=List.getElem_mem u
   have HC:=Jh (IH.out _ j s0 cs wr (HS.out.ext hB) ai (ag.out _ j))
   have HT:=Jh (Ba l k u)
   generalize hek:l[k]=ek at *
   cases hp:A7 ls ek with
   | true =>
    rw [hp] at HC
    have HP:=Jh hp
    clear hp hek
    go_wp2_with (first | ((with_reducible show Jl 40);refine Aa rfl 40 _ rfl rfl (ac) Ah hn ?_) | (go_at_call 139;refine HC.out.mono ?_;rintro r w1 ⟨rfl,aa⟩))
    go_roundw
    case rel=>exact ⟨k+1,by omega,by go_num,by rw [HT.out,List.all_append,ab.out];simp [HP.out],hB.trans aa⟩
    case measure=>simp [intOf];omega
   | false =>
    rw [hp] at HC
    have HP:=Jh (show l.all (A7 ls)=false from by
     rw [List.all_eq_false];exact ⟨ek,j,by simp [hp]⟩)
    clear hp hek
    go_wp2_with (first | ((with_reducible show Jl 40);refine Aa rfl 40 _ rfl rfl (ac) Ah hn ?_) | (go_at_call 139;refine HC.out.mono ?_;rintro r w1 ⟨rfl,aa⟩))
    go_ret
    exact ⟨Af HP.out.symm,hB.trans aa⟩
  ·obtain rfl:k=l.length:=by omega
   have hf:=ab.out
   rw [List.take_length] at hf
   have HF:=Jh hf
   clear hf
   go_wp2_with fail
   go_ret
   exact ⟨Af HF.out.symm,hB⟩
theorem Hj (ls:List Ai) (e:E):Qq ls e:=by
 induction e using E.ind with
 | h e ih =>
 intro s0 cs w hS hV ae
 have ac:=Jh (show A7 ls e=_ from (Fu ls e).trans (by rw [Vs]))
 have af:=((E.wf_iff e).1 ae).2.2.2.2.2.2.2
 obtain ⟨s,rfl,hs⟩:=hV
 have hx:=Ab w (.cells (e.cells s).toArray 40)
 have hb:=Has.alloc w (e.cells s) 40
 have HP:=Jh (fun W (hx':Ext w W)=>Vm e _ W ⟨s,rfl,hs.ext hx'⟩)
 have ab:=Jh (fun W (hx':Ext w W)=>R8 ls e s0 _ W (hS.ext hx') ⟨s,rfl,hs.ext hx'⟩ ae)
 have ag:=Jh (fun W (hx':Ext w W)=>Ix ls e.l ih af s0 s W (hS.ext hx') (hs.ext hx'))
 clear ih af
 obtain ⟨a,b,o,cap,rfl,aj,ak,-,-⟩:=hs.open
 go_enter Tryz.func139,Tryz.ntmps139
 go_upto_region 1 with fail
 generalize w.alloc _=w0 at *
 have HX:=Jh hx
 have HB:=Jh hb
 clear hx hb hs hS ae
 cases hp:Gu e.op e.l.length with
 | false =>
  have HE:=Jh (show A7 ls e=false by rw [ac.out,hp];rfl)
  rw [hp] at HP
  clear hp
  go_wp2_with (first | ((with_reducible show Jl 40);refine Aa rfl 40 _ rfl rfl (HB.out) Ah rfl ?_) | (go_at_call 172;refine (HP.out _ HX.out).mono ?_;rintro r w1 ⟨rfl,j⟩))
  go_ret
  exact ⟨Af HE.out.symm,HX.out.trans j⟩
 | true =>
  rw [hp] at HP
  cases hf:A1 ls e.op e.w e.v e.sig e.hi e.lo e.n with
  | false =>
   have HE:=Jh (show A7 ls e=false by rw [ac.out,hp,hf];rfl)
   rw [hf] at ab
   clear hp hf
   go_wp2_with (first | ((with_reducible show Jl 40);refine Aa rfl 40 _ rfl rfl (HB.out) Ah rfl ?_) | ((with_reducible show Jl 40);refine Aa rfl 40 _ rfl rfl (aa.out) Ah rfl ?_) | (go_at_call 172;refine (HP.out _ HX.out).mono ?_;rintro r w1 ⟨rfl,j⟩;have aa:=Jh (HB.out.ext j)) | (go_at_call 173;refine (ab.out _ (HX.out.trans j)).mono ?_;rintro r w2 ⟨rfl,u⟩))
   go_ret
   exact ⟨Af HE.out.symm,HX.out.trans (j.trans u)⟩
  | true =>
   have HE:=Jh (show A7 ls e=e.l.all (A7 ls) by rw [ac.out,hp,hf];simp)
   rw [hf] at ab
   clear hp hf
   go_wp2_with (first | ((with_reducible show Jl 40);refine Aa rfl 40 _ rfl rfl (HB.out) Ah rfl ?_) | ((with_reducible show Jl 40);refine Aa rfl 40 _ rfl rfl (aa.out) Ah rfl ?_) | (go_at_call 172;refine (HP.out _ HX.out).mono ?_;rintro r w1 ⟨rfl,j⟩;have aa:=Jh (HB.out.ext j)) | (go_at_call 173;refine (ab.out _ (HX.out.trans j)).mono ?_;rintro r w2 ⟨rfl,u⟩;have y7:=(aa.out.ext u) 7 _ rfl) | (go_at_call 174;refine (ag.out _ (HX.out.trans (j.trans u))).mono ?_;rintro r w3 ⟨rfl,ai⟩))
   go_ret
   exact ⟨Af HE.out.symm,HX.out.trans (j.trans (u.trans ai))⟩
def G8 (x:E):Prop:=∀ (cs:List Value) (w:World),VE w cs x ->
 Calls Tryz.prog 143 #[.agg cs.toArray] w fun r w'=>r=.returned (.int .i64 (own x))/\Ext w w'
theorem Iq (x y:E) (hx:G8 x) (hy:G8 y) (cs aa:List Value) (w:World) (h:VE w cs x) (h':VE w aa y) :
  Calls Tryz.prog 176 #[.agg cs.toArray,.agg aa.toArray] w fun r w'=>r=.returned (.int .i64 (if own x=0 then own y else own x))/\Ext w w':=by
 have j:=Jh (fun W (hx':Ext w W)=>hx cs W (h.ext hx'))
 have af:=Jh (fun W (hx':Ext w W)=>hy aa W (h'.ext hx'))
 obtain ⟨q,hq⟩:∃ q,own x=q:=⟨_,rfl⟩
 obtain ⟨q',aj⟩:∃ q,own y=q:=⟨_,rfl⟩
 rw [hq] at j ⊢
 rw [aj] at af ⊢
 clear hq aj hx hy
 obtain ⟨t,ht⟩:∃ t,(if q=0 then q' else q)=t:=⟨_,rfl⟩
 rw [ht]
 have HT:=Jh ht
 clear ht
 obtain ⟨s,rfl,hs⟩:=h
 obtain ⟨s',rfl,am⟩:=h'
 have ag:=Ab w (.cells (x.cells s).toArray 40)
 have ab:=Ab (w.alloc (.cells (x.cells s).toArray 40)) (.cells (y.cells s').toArray 40)
 have ai:=(Has.alloc w (x.cells s) 40).ext ab
 have ac:=Has.alloc (w.alloc (.cells (x.cells s).toArray 40)) (y.cells s') 40
 rw [World.size_alloc] at ac
 have hX:=ag.trans ab
 clear ag ab hs am
 go_enter Tryz.func176,Tryz.ntmps176
 go_upto_region 1 with fail
 generalize (w.alloc _).alloc _=w0 at *
 have ae:=Jh ai
 have ak:=Jh ac
 have HX:=Jh hX
 clear ai ac hX
 by_cases h0:q=0
 ·have HE:=Jh (show q'=t from (if_pos h0).symm.trans HT.out)
  have b0:(q==0)=true:=by rw [beq_iff_eq];exact h0
  clear h0
  go_wp2_with (first | ((with_reducible show Jl 40);refine Aa rfl 40 _ rfl rfl (ae.out) Ah rfl ?_) | (go_at_call 143;refine (j.out _ HX.out).mono ?_;rintro r w1 ⟨rfl,u⟩;have al:=Jh (ak.out.ext u);clear j) | ((with_reducible show Jl 40);refine Aa rfl 40 _ rfl rfl (al.out) Ah rfl ?_) | (go_at_call 143;refine (af.out _ (HX.out.trans u)).mono ?_;rintro r w2 ⟨rfl,an⟩))
  go_ret
  exact ⟨Bv HE.out,HX.out.trans (u.trans an)⟩
 ·have HE:=Jh (show q=t from (if_neg h0).symm.trans HT.out)
  have b0:(q==0)=false:=by rw [beq_eq_false_iff_ne];exact h0
  clear h0
  go_wp2_with (first | ((with_reducible show Jl 40);refine Aa rfl 40 _ rfl rfl (ae.out) Ah rfl ?_) | (go_at_call 143;refine (j.out _ HX.out).mono ?_;rintro r w1 ⟨rfl,u⟩;clear j))
  go_ret
  exact ⟨Bv HE.out,HX.out.trans u⟩
theorem Ahg {α:Type} {l:List α} (h:l.length=2):∃ x y,l=[x,y]:=by
 match l,h with
 | [x,y],_=>exact ⟨x,y,rfl⟩
theorem Air {α:Type} {l:List α} (h:l.length=3):∃ x y z,l=[x,y,z]:=by
 match l,h with
 | [x,y,z],_=>exact ⟨x,y,z,rfl⟩
theorem Nn {ls:List Ai} (a3:∀ x∈ls,x.w<=64) (e:E):A7 ls e=true->nodes e<=1048576->G8 e:=by
 induction e using E.ind with
 | h e ih =>
 intro aj ak cs w hV
 have au:=C8 ls a3 e aj
 have aw:=Ku e au
 obtain ⟨h1,h2,h3,h4⟩:=(Fd e).1 au
 have an:=Pa aj
 have ap:∀ x∈e.l,G8 x:=fun x hx=>ih x hx (by rw [Fu,Bool.and_eq_true] at aj;exact List.all_eq_true.1 aj.2 x hx) (by rw [C7] at ak;have:=Bf nodes e.l _ hx;omega)
 have IH:=Jh ap
 clear ih ap
 have HE:=Jh (Np e)
 have av:=Jh (C7 e)
 obtain ⟨s,rfl,hs⟩:=hV
 obtain ⟨a,b,o,cap,az,ar,a8,ha,hr⟩:=hs.open
 obtain ⟨op,wd,v,sig,hi,lo,n,l⟩:=e
 simp only at az ar HE IH h1 h2 h4 ha hr an av
 subst az
 have H2:=Jh h2
 have H4:=Jh h4
 have HR:=Jh hr
 have HA:=Jh ha
 have a7:=Jh aw
 have a1:=Jh ak
 clear h1 h2 h3 h4 hs au hr ha aw aj ak
 have HX:=Ab w (.cells (E.cells ⟨op,wd,v,sig,hi,lo,n,l⟩ (.slice a l.length cap)).toArray 40)
 have HB:=Has.alloc w (E.cells ⟨op,wd,v,sig,hi,lo,n,l⟩ (.slice a l.length cap)) 40
 go_enter Tryz.func143,Tryz.ntmps143
 go_upto_region 1 with (fail)
 generalize w.alloc _=w0 at *
 have g0:=HB 0 _ rfl
 have am:∀ k (hk:k<l.length),∃ s',a=some ⟨b,o,Option.none⟩/\Has w0 b (o+k*8) (l[k].cells s')/\∀ W,Ext w0 W->VE W (l[k].cells s') l[k]:=by
  intro k hk
  obtain ⟨s1,q1,q2⟩:=Es.get (HR.out.mono fun x _ b o h=>EAt.ext' HX h) hk
  exact ⟨s1,HA.out (by omega),q1,fun W hx=>⟨s1,rfl,q2.ext hx⟩⟩
 have HG:=Jh am
 clear am
 rcases an with h | h | h | h | h | h | h | h
 ·obtain ⟨rfl,-⟩:=h
  have g1:=HB 1 _ rfl
  go_wp2_with fail
  go_ret
  exact ⟨Bv (by rw [HE.out];simp),HX⟩
 ·obtain ⟨rfl,-⟩:=h
  have h2:=H2.out rfl
  have g4:=HB 4 _ rfl
  have g5:=HB 5 _ rfl
  go_wp2_with fail
  go_ret
  exact ⟨Bv (by rw [HE.out];simp),HX⟩
 ·obtain ⟨rfl,-⟩:=h
  go_wp2_with fail
  go_ret
  exact ⟨Bv (by rw [HE.out];simp),HX⟩
 ·obtain ⟨rfl,hl,a4,a5⟩:=h
  have g6:=HB 6 _ rfl
  by_cases hn:n<=2
  ·obtain ⟨x,rfl⟩:=List.length_eq_one_iff.1 hl
   obtain ⟨s',rfl,u,j⟩:=HG.out 0 (by simp)
   simp only [Jb,Nat.zero_mul,Nat.add_zero] at u j
   have g7:=HB 7 _ rfl
   simp only [List.length_cons,List.length_nil,Nat.zero_add] at g7
   have HC:=Jh (IH.out x (by simp) _ w0 (j _ (Below.refl _ _)))
   have hv:own ⟨4,wd,v,sig,hi,lo,n,[x]⟩=own x:=by rw [HE.out];simp [hn,own.hd]
   have HV:=Jh hv
   clear j hv
   go_wp2_with (first | ((with_reducible show Jl 40);refine Aa rfl 40 _ rfl rfl (u) Ah rfl ?_) | (go_at_call 143;refine HC.out.mono ?_;rintro r w1 ⟨rfl,aa⟩))
   go_ret
   exact ⟨Bv HV.out.symm,HX.trans aa⟩
  ·have HV:=Jh (show own ⟨4,wd,v,sig,hi,lo,n,l⟩=1 by rw [HE.out];simp [show ¬ n<=2 by omega])
   go_wp2_with fail
   go_ret
   exact ⟨Bv HV.out.symm,HX⟩
 ·obtain ⟨rfl,hl,a4,a5⟩:=h
  have g6:=HB 6 _ rfl
  have g7:=HB 7 _ rfl
  by_cases hn:19<=n
  ·go_wp2_with fail
   go_ret
   exact ⟨Bv (by rw [HE.out];simp [show ¬ n<=16 by omega,show ¬ n<=18 by omega]),HX⟩
  ·obtain ⟨x,y,rfl⟩:=Ahg hl
   obtain ⟨s',rfl,u,j⟩:=HG.out 0 (by simp)
   obtain ⟨s2,-,ac,ab⟩:=HG.out 1 (by simp)
   simp only [Jb,Jc,Nat.zero_mul,Nat.add_zero,Nat.one_mul,List.length_cons,List.length_nil,Nat.zero_add] at u j ac ab g7 ar
   by_cases bb:17<=n
   ·have HC:=Jh (IH.out x (by simp) _ w0 (j _ (Below.refl _ _)))
    have HV:=Jh (show own ⟨5,wd,v,sig,hi,lo,n,[x,y]⟩=own x by rw [HE.out];simp [show ¬ n<=16 by omega,show n<=18 by omega,own.hd])
    clear j ab
    go_wp2_with (first | ((with_reducible show Jl 40);refine Aa rfl 40 _ rfl rfl (u) Ah rfl ?_) | (go_at_call 143;refine HC.out.mono ?_;rintro r w1 ⟨rfl,aa⟩))
    go_ret
    exact ⟨Bv HV.out.symm,HX.trans aa⟩
   ·have HV:=Jh (show own ⟨5,wd,v,sig,hi,lo,n,[x,y]⟩=(if own x=0 then own y else own x) by
     rw [HE.out];simp [show n<=16 by omega,own.fst];split<;>simp_all)
    have HC:=Jh (fun W (hx':Ext w0 W)=>Iq x y (IH.out x (by simp)) (IH.out y (by simp)) _ _ W (j W hx') (ab W hx'))
    obtain ⟨t,ht⟩:∃ t,(if own x=0 then own y else own x)=t:=⟨_,rfl⟩
    rw [ht] at HV HC
    clear ht
    have ae:=Jh u
    have aq:=Jh ac
    have ag:=Jh HB
    have af:=Jh HX
    clear j ab u ac HX HB
    go_upto_region 15 with fail
    refine Jg w0 fun hH=>?_
    try simp only [J]
    (refine Ji 0 _ rfl hH ?_;try simp only [J])
    (refine Jt 1 (.slice (some ⟨b,o,Option.none⟩) 2 cap) rfl (yif_load1 rfl (by intro W hW;have y7:=(ag.out.ext hW) 7 _ rfl;simp only [List.length_cons,List.length_nil,Nat.zero_add] at y7;clear hW;go_simp)) hH ?_;try simp only [J])
    (refine Jk 2 (.pointer (some ⟨b,o,Option.none⟩)) rfl hH ?_;try simp only [J])
    (refine Jt 3 (.agg (x.cells s').toArray) rfl (Ar rfl 40 _ rfl rfl (fun W hW=>ae.out.ext hW) Ah rfl) hH ?_;try simp only [J])
    (refine Ji 4 _ rfl hH ?_;try simp only [J])
    (refine Jt 5 (.slice (some ⟨b,o,Option.none⟩) 2 cap) rfl (yif_load1 rfl (by intro W hW;have y7:=(ag.out.ext hW) 7 _ rfl;simp only [List.length_cons,List.length_nil,Nat.zero_add] at y7;clear hW;go_simp)) hH ?_;try simp only [J])
    (refine Jk 6 (.pointer (some ⟨b,o+8,Option.none⟩)) rfl hH ?_;try simp only [J])
    (refine Jt 7 (.agg (y.cells s2).toArray) rfl (Ar rfl 40 _ rfl rfl (fun W hW=>aq.out.ext hW) Ah rfl) hH ?_;try simp only [J])
    refine Jr 8 rfl fun K hK=>?_
    go_simp
    refine (HC.out _ hH).mono ?_
    rintro r w1 ⟨rfl,aa⟩
    refine hK.out _ _ (hH.trans aa) (fun hH=>?_)
    clear hK K
    try simp only [J]
    (refine Ji 9 _ rfl hH ?_;try simp only [J])
    refine Jz ?_
    go_wp2_with fail
    go_ret
    exact ⟨Bv HV.out.symm,af.out.trans hH⟩
 ·obtain ⟨rfl,hl⟩:=h
  obtain ⟨x0,x,y,rfl⟩:=Air hl
  obtain ⟨s',rfl,u,j⟩:=HG.out 1 (by simp)
  obtain ⟨s2,-,ac,ab⟩:=HG.out 2 (by simp)
  simp only [Jb,Jc,Nat.zero_mul,Nat.add_zero,Nat.one_mul,List.length_cons,List.length_nil,Nat.zero_add] at u j ac ab ar
  have HV:=Jh (show own ⟨6,wd,v,sig,hi,lo,n,[x0,x,y]⟩=(if own x=0 then own y else own x) by
   rw [HE.out];simp [own.fst2,own.fst];split<;>simp_all)
  have HC:=Jh (fun W (hx':Ext w0 W)=>Iq x y (IH.out x (by simp)) (IH.out y (by simp)) _ _ W (j W hx') (ab W hx'))
  obtain ⟨t,ht⟩:∃ t,(if own x=0 then own y else own x)=t:=⟨_,rfl⟩
  rw [ht] at HV HC
  clear ht
  have ae:=Jh u
  have aq:=Jh ac
  have ag:=Jh HB
  have af:=Jh HX
  clear j ab u ac HX HB
  go_upto_region 17 with fail
  refine Jg w0 fun hH=>?_
  try simp only [J]
  (refine Ji 0 _ rfl hH ?_;try simp only [J])
  (refine Jt 1 (.slice (some ⟨b,o,Option.none⟩) 3 cap) rfl (yif_load1 rfl (by intro W hW;have y7:=(ag.out.ext hW) 7 _ rfl;simp only [List.length_cons,List.length_nil,Nat.zero_add] at y7;clear hW;go_simp)) hH ?_;try simp only [J])
  (refine Jk 2 (.pointer (some ⟨b,o+8,Option.none⟩)) rfl hH ?_;try simp only [J])
  (refine Jt 3 (.agg (x.cells s').toArray) rfl (Ar rfl 40 _ rfl rfl (fun W hW=>ae.out.ext hW) Ah rfl) hH ?_;try simp only [J])
  (refine Ji 4 _ rfl hH ?_;try simp only [J])
  (refine Jt 5 (.slice (some ⟨b,o,Option.none⟩) 3 cap) rfl (yif_load1 rfl (by intro W hW;have y7:=(ag.out.ext hW) 7 _ rfl;simp only [List.length_cons,List.length_nil,Nat.zero_add] at y7;clear hW;go_simp)) hH ?_;try simp only [J])
  (refine Jk 6 (.pointer (some ⟨b,o+2*8,Option.none⟩)) rfl hH ?_;try simp only [J])
  (refine Jt 7 (.agg (y.cells s2).toArray) rfl (Ar rfl 40 _ rfl rfl (fun W hW=>aq.out.ext hW) Ah rfl) hH ?_;try simp only [J])
  refine Jr 8 rfl fun K hK=>?_
  go_simp
  refine (HC.out _ hH).mono ?_
  rintro r w1 ⟨rfl,aa⟩
  refine hK.out _ _ (hH.trans aa) (fun hH=>?_)
  clear hK K
  try simp only [J]
  (refine Ji 9 _ rfl hH ?_;try simp only [J])
  refine Jz ?_
  go_wp2_with fail
  go_ret
  exact ⟨Bv HV.out.symm,af.out.trans hH⟩
 ·obtain ⟨rfl,hl⟩:=h
  have a6:=A8 nodes l (fun x _=>Gh x)
  have ak:Ap nodes l<1048576:=by have:=a1.out;have:=av.out;omega
  have hV:own ⟨7,wd,v,sig,hi,lo,n,l⟩=own.cat l 0:=by rw [HE.out];simp
  have HV:=Jh hV
  clear hV
  have a0:=Jh HB
  have af:=Jh HX
  have g7:=HB 7 _ rfl
  clear HB HX
  go_wp2_with fail
  clear g0 g7
  go_loopw [3,4] (fun x i wr=>∃ k:Nat,∃ m:Int,k<=l.length/\i=.int .i64 k/\x=.int .i64 m/\own.cat l 0=own.cat (l.drop k) m/\0<=m/\m<=65*Ap nodes (l.take k)/\Ext w0 wr) (fun _ i _=>l.length-(intOf i).toNat)
  case atStart=>exact ⟨0,0,Nat.zero_le _,rfl,rfl,rfl,by omega,by omega,Below.refl _ _⟩
  case round =>
   obtain ⟨k,m,hk,rfl,rfl,hm,a9,ba,hB⟩:=hrel
   have HM:=Jh hm
   clear hm
   have g7:=(a0.out.ext hB) 7 _ rfl
   by_cases ai:k<l.length
   ·obtain ⟨s',rfl,u,j⟩:=HG.out k ai
    have ao:l[k]∈l:=List.getElem_mem ai
    have ay:=Ku l[k] (H4.out _ ao)
    have al:=Ct nodes l k ai
    have ah:=Bz nodes l (k+1)
    rw [al] at ah
    have hz:=own.cat_zero l k m ai
    have ho:=own.cat_on l k m ai
    have HC:=Jh (IH.out _ ao _ wr (j _ hB))
    have ae:=Jh (u.ext hB)
    clear j u
    obtain ⟨nk,ax⟩:∃ q,nodes l[k]=q:=⟨_,rfl⟩
    obtain ⟨q,hq⟩:∃ q,own l[k]=q:=⟨_,rfl⟩
    rw [hq] at HC hz ho ay
    rw [ax] at al ah ay
    have HZ:=Jh hz
    have HO:=Jh ho
    have a2:=Jh al
    clear hz ho al hq ax
    generalize l[k]=ek at *
    by_cases h0:q=0
    ·have b0:(q==0)=true:=by rw [beq_iff_eq];exact h0
     have HF:=Jh (show own.cat l 0=0 by rw [HM.out,HZ.out h0])
     clear h0
     go_wp2_with (first | ((with_reducible show Jl 40);refine Aa rfl 40 _ rfl rfl (ae.out) Ah rfl ?_) | (go_at_call 143;refine HC.out.mono ?_;rintro r w1 ⟨rfl,aa⟩))
     go_ret
     exact ⟨Bv (HV.out.trans HF.out).symm,af.out.trans (hB.trans aa)⟩
    ·have b0:(q==0)=false:=by rw [beq_eq_false_iff_ne];exact h0
     have HF:=Jh (show own.cat l 0=_ from by rw [HM.out,HO.out h0])
     clear h0
     go_wp2_with (first | ((with_reducible show Jl 40);refine Aa rfl 40 _ rfl rfl (ae.out) Ah rfl ?_) | (go_at_call 143;refine HC.out.mono ?_;rintro r w1 ⟨rfl,aa⟩))
     go_roundw
     case rel=>exact ⟨k+1,m+q,by omega,by go_num,rfl,HF.out,by omega,by rw [a2.out];omega,hB.trans aa⟩
     case measure=>simp [intOf];omega
   ·obtain rfl:k=l.length:=by omega
    have HF:=Jh (show own.cat l 0=m by rw [HM.out,List.drop_length,own.cat])
    go_wp2_with fail
    go_ret
    exact ⟨Bv (HV.out.trans HF.out).symm,af.out.trans hB⟩
 ·obtain ⟨rfl,-⟩:=h
  have g1:=HB 1 _ rfl
  go_wp2_with fail
  go_ret
  exact ⟨Bv (by rw [HE.out];simp),HX⟩
def F7 (x:E):Prop:=∀ (wd:Int) (cs:List Value) (w:World),VE w cs x->0<=wd->wd<=9223372036854775807 ->
 Calls Tryz.prog 144 #[.agg cs.toArray,.int .i64 wd] w (Dc w (Ao x wd))
theorem Ky (x:E) (ih:∀ y∈x.l,F7 y) (bl:∀ y∈x.l,G8 y) (hl:x.l.length<=1048576) (ws:List Int) (cx:x.l.length<=ws.length) (b7:∀ v∈ws,v = -1\/0<=v/\v<=9223372036854775807) (cs:List Value) (s':Value) (w:World) (hV:VE w cs x) (hW:Is w s' ws) :
  Calls Tryz.prog 177 #[.agg cs.toArray,s'] w (Dc w (Bm x ws)):=by
 obtain ⟨op,ew,v,sig,hi,lo,n,l⟩:=x
 simp only at ih bl hl cx
 have IH:=Jh ih
 have cn:=Jh bl
 have cm:=Jh b7
 clear ih bl b7
 obtain ⟨s,rfl,hs⟩:=hV
 obtain ⟨a,b,o,cap,rfl,ct,c6,ha,hr⟩:=hs.open
 obtain ⟨a',b',o',cz,rfl,bh,c0,bx,b9⟩:=hW.open
 simp only at ct bh ha hr
 have HR:=Jh hr
 have HA:=Jh ha
 have co:=Jh b9
 have ce:=Jh bx
 clear hr ha b9 bx hs hW
 have HX:=(Ab w (.cells (E.cells ⟨op,ew,v,sig,hi,lo,n,l⟩ (.slice a l.length cap)).toArray 40)).alloc (.cells A0.toArray 40)
 have bq:=(Blk.new w (E.cells ⟨op,ew,v,sig,hi,lo,n,l⟩ (.slice a l.length cap)).toArray 40).alloc (.cells A0.toArray 40)
 have a0:=Blk.new (w.alloc (.cells (E.cells ⟨op,ew,v,sig,hi,lo,n,l⟩ (.slice a l.length cap)).toArray 40)) A0.toArray 40
 simp only [World.size_alloc] at a0
 go_enter Tryz.func177,Tryz.ntmps177
 go_upto_region 1 with (fail)
 generalize (w.alloc _).alloc _=w0 at *
 have K0:=Jh bq
 have K1:=Jh a0
 have ab:=Jh HX
 have c1:w.heap.size+1<w0.heap.size:=a0.lt
 clear bq a0 HX
 go_wp2_with fail
 go_loopw [6,7,8,9,10,11] (fun u i _ _ _ _ wr=>∃ (k:Nat) (vv:Value) (rr:List E),vv=u/\k<=l.length/\i=.int .i64 k/\Ao.sizeL (l.take k) ws=.ok rr/\rr.length=k/\Bi VE 40 8 w0.heap.size vv rr wr/\Blk wr w.heap.size (E.cells ⟨op,ew,v,sig,hi,lo,n,l⟩ (.slice a l.length cap)).toArray 40/\Blk wr (w.heap.size+1) A0.toArray 40/\Ext w0 wr) (fun _ i _ _ _ _ _=>l.length-(intOf i).toNat)
 case atStart=>exact ⟨0,_,[],rfl,Nat.zero_le _,rfl,rfl,rfl,Bi.nil,K0.out,K1.out,Below.refl _ _⟩
 case round =>
  obtain ⟨k,vv,rr,rfl,hk,rfl,bd,ca,be,aq,a5,hB⟩:=hrel
  have ai:=Jh bd
  have bf:=Jh ca
  have ac:=Jh be
  have bi:=Jh aq
  have a3:=Jh a5
  have ak:=Jh hB
  have c5:=hB.size
  have g7:=aq.has 7 _ rfl
  clear bd ca be aq a5 hB
  by_cases aw:k<l.length
  ·obtain ⟨ap,b0,ax,a6⟩:=VE.get (HR.out.mono fun x _ b o h=>EAt.ext' (ab.out.trans ak.out) h) aw
   obtain rfl:=HA.out (by omega)
   obtain rfl:=ce.out (by omega)
   have bk:k<ws.length:=by omega
   have bc:l[k]∈l:=List.getElem_mem aw
   have bo:=cm.out _ (List.getElem_mem bk)
   have bw:=Jh (fun W (hx:Ext w W)=>Is.get (co.out.mono fun x _ b o h=>Mu.ext h hx) bk)
   have ah:ws[k]?.getD 0=ws[k]:=by simp [bk]
   have cb:=Rr l k ws aw
   have cp:=Jh cb
   have HC:=Jh (fun wd W (hx:Ext wr W)=>IH.out _ bc wd ap W (a6.ext hx))
   have HQ:=Jh (fun W (hx:Ext wr W)=>cn.out _ bc ap W (a6.ext hx))
   have cd:=Ab wr (.cells ap.toArray 40)
   have bz:=Has.alloc wr ap 40
   have c8:wr.heap.size<(wr.alloc (.cells ap.toArray 40)).heap.size:=by simp
   have bt:=Jh bf.out
   have bu:=Jh a6.one
   clear cb
   obtain ⟨m,hm⟩:∃ m,ws[k]=m:=⟨_,rfl⟩
   rw [hm] at bo ah bw
   have bg:=Jh ah
   clear hm ah a6
   have bb:=Ue l[k]
   have ag:=Jh bb
   clear bb
   go_upto_region 6 with (first | ((with_reducible show Jl 40);refine Aa rfl 40 _ rfl rfl (b0) Ah ax ?_) | ((with_reducible show Js 40);refine Ad rfl 40 _ _ rfl rfl (by first | rfl | simp) rfl Ah (ax) rfl (bu.out) ?_))
   generalize wr.alloc _=w2 at *
   have ae:=Jh cd
   have a1:=Jh bz
   have yw:=bw.out w2 (ab.out.trans (ak.out.trans ae.out))
   clear cd bz g7 b0
   obtain ⟨q,hq⟩:∃ q,own l[k]=q:=⟨_,rfl⟩
   rw [hq] at HQ ag
   clear hq
   obtain ⟨m',a8⟩:∃ m',(if m = -1 then (1:Int) else m)=m':=⟨_,rfl⟩
   have a2:=Jh a8
   have b4:0<=m':=by rw [<-a8];split<;>omega
   have b5:m'<=9223372036854775807:=by rw [<-a8];split<;>omega
   have ci:=Jh b4
   have cj:=Jh b5
   have ba:=Jh bo
   clear a8 bo b4 b5
   go_upto_if 29 with fail
   go_cut [9] (fun u cy=>u=.int .i64 m'/\¬(m = -1/\1<q)/\Ext w2 cy)
   case first =>
    clear yw
    rcases ba.out with rfl | hmm
    ·by_cases cv:1<q
     ·have an:=Jh (show Bm ⟨op,ew,v,sig,hi,lo,n,l⟩ ws=.error 91 by unfold Bm;simp only;rw [L6 l k ws aw rr ai.out 91 (by rw [bg.out,ag.out,if_pos cv])])
      go_wp2_with (first | ((with_reducible show Jl 40);refine Aa rfl 40 _ rfl rfl (a1.out) Ah ax ?_) | (go_at_call 143;refine (HQ.out _ ae.out).mono ?_;rintro r w3 ⟨rfl,af⟩) | ((with_reducible show Js 40);refine Ac rfl 40 _ _ rfl (a3.out.ext (ae.out.trans af)) rfl (cs:=A0) rfl Ah rfl rfl rfl ?_;intro w7 au am))
      refine Ak rfl rfl rfl au.has Ah rfl rfl (.inl ⟨91,an.out,by omega,rfl,(ab.out.trans (ak.out.trans (ae.out.trans af))).grown am (by omega)⟩)
     ·go_wp2_with (first | ((with_reducible show Jl 40);refine Aa rfl 40 _ rfl rfl (a1.out) Ah ax ?_) | (go_at_call 143;refine (HQ.out _ ae.out).mono ?_;rintro r w3 ⟨rfl,af⟩))
      go_meet
      case rel=>exact ⟨by rw [<-a2.out];rfl,fun h=>by omega,af⟩
    ·have g1:m ≠ -1:=by omega
     go_wp2_with fail
     go_meet
     case rel=>exact ⟨by rw [<-a2.out,if_neg g1],fun h=>g1 h.1,Below.refl _ _⟩
   case rest =>
    obtain ⟨rfl,b6,a4⟩:=hcut
    have az:Ao l[k] m=Ao l[k] m':=by
     rw [<-a2.out]
     by_cases h:m = -1
     ·rw [if_pos h];subst h;rw [ag.out,if_neg (fun h=>b6 ⟨rfl,h⟩)]
     ·rw [if_neg h]
    have bv:=Jh az
    have br:=Jh (a1.out.ext a4)
    have ao:=Jh (ae.out.trans a4)
    have c7:=a4.size
    have cf:=Jh (HC.out m' wc ao.out ci.out cj.out)
    clear b6 az yw a4 HC HQ ag a2 ba a1 ae
    go_wp2_with (first | ((with_reducible show Jl 40);refine Aa rfl 40 _ rfl rfl (br.out) Ah ax ?_) | (go_at_call 144;refine cf.out.mono ?_;intro r w3 b8;obtain ⟨aa,g,rfl,h8,ay,af,ho⟩:=b8.open;clear b8;refine Hid.out ?_))
    refine Jh ?_
    have a9:=Ab w3 (.cells aa.toArray 40)
    have cr:=Jh (Has.alloc w3 aa 40)
    have al:=Jh ((ao.out.trans af).trans a9)
    have c3:w3.heap.size<(w3.alloc (.cells aa.toArray 40)).heap.size:=by simp
    have c2:=af.size
    have c4:=ao.out.size
    rcases ho with ⟨rfl,y,hy,b2⟩ | ⟨hg,hy⟩
    ·have cg:=Jh (show FV VE wc.heap.size (w3.alloc (.cells aa.toArray 40)) aa y from fun W hW=>(b2.ext a9) W (hW.mono (by omega)))
     have cl:=Jh (show Ao.sizeL (l.take (k+1)) ws=.ok (rr++[y]) by rw [cp.out,ai.out];simp only [bg.out,bv.out,hy])
     clear b2 hy a9
     go_upto_region 12 with (first | ((with_reducible show Js 40);refine Ad rfl 40 _ _ rfl rfl (by first | rfl | simp) rfl Ah (h8) rfl (ay) ?_))
     generalize w3.alloc _=w4 at *
     go_wp2_with (first | ((with_reducible show Jl 40);refine Aa rfl 40 _ rfl rfl (cr.out) Ah h8 ?_) | ((with_reducible show Jw (Op.buildSlice _ _ _));refine B9 rfl _ _ rfl Qt rfl (cs:=aa) rfl h8 (by decide) ?_) | ((with_reducible show Jw (Op.call { callee:=.builtin .append,args:=_,argTypes:=_ }));refine De (V:=VE) rfl _ _ _ rfl Qt rfl (((ac.out.since (Al.of_ext al.out)).since (Al.of_ext (Ab w4 (.cells aa.toArray 40))))) rfl h8 (Has.alloc w4 aa 40) ay ((cg.out.ext (Ab w4 (.cells aa.toArray 40))).st (N:=w0.heap.size) (by omega) (fun k hk=>by have:=(ac.out.lt k hk).2;omega)) (by rw [bt.out];omega) (by simp;omega) ?_;rw [bt.out];intro g5 ch w5 bm bj))
     have bp:=Ab w4 (.cells aa.toArray 40)
     have hR:∀ j,vv.ownBlock=some j->w0.heap.size<=j:=fun j hj=>(ac.out.lt j hj).1
     have aq:=((bi.out.ext (al.out.trans bp)).grownO bj (fun j hj=>by have:=hR j hj;omega))
     have a5:=((a3.out.ext (al.out.trans bp)).grownO bj (fun j hj=>by have:=hR j hj;omega))
     have b1:=((ak.out.trans (al.out.trans bp)).grownO bj (fun j hj=>by have:=hR j hj;omega))
     go_roundw
     case rel=>exact ⟨k+1,_,_,rfl,by omega,by go_num,cl.out,by simp [bf.out],bm,aq,a5,b1⟩
     case measure=>simp [intOf];omega
    ·have g1:(g != 0)=true:=by rw [bne_iff_ne];omega
     have an:=Jh (show Bm ⟨op,ew,v,sig,hi,lo,n,l⟩ ws=.error g by unfold Bm;simp only;rw [L6 l k ws aw rr ai.out g (by rw [bg.out,bv.out];exact hy)])
     clear hy a9
     go_upto_region 12 with (first | ((with_reducible show Js 40);refine Ad rfl 40 _ _ rfl rfl (by first | rfl | simp) rfl Ah (h8) rfl (ay) ?_))
     generalize w3.alloc _=w4 at *
     go_wp2_with (first | ((with_reducible show Js 40);refine Ac rfl 40 _ _ rfl (a3.out.ext al.out) rfl (cs:=A0) rfl Ah rfl rfl rfl ?_;intro w7 au am))
     refine Ak rfl rfl rfl au.has Ah rfl rfl (.inl ⟨g,an.out,hg,rfl,(ab.out.trans (ak.out.trans al.out)).grown am (by omega)⟩)
  ·obtain rfl:k=l.length:=by omega
   have av:=ai.out
   rw [List.take_length] at av
   have bs:=Jh (show Bm ⟨op,ew,v,sig,hi,lo,n,l⟩ ws=.ok ⟨op,ew,v,sig,hi,lo,n,rr⟩ by unfold Bm;simp only [av])
   clear av
   obtain ⟨ar,aj,cc,-⟩:=ac.out.open
   rw [bf.out] at cc
   subst cc
   go_upto_region 15 with fail
   have b3:=bi.out.frozen
   have r7:=b3 7
   clear b3
   go_upto_region 16 with fail
   have cq:Blk _ w.heap.size (E.cells ⟨op,ew,v,sig,hi,lo,n,rr⟩ (.slice ar l.length aj)).toArray 40:=bi.out.set 7 (.slice ar l.length aj)
   have a7:=Ay wr w.heap.size 7 (.slice ar l.length aj)
   have cu:=a3.out.grown a7 (by omega)
   have cw:=ac.out.since (Al.of_grown a7 (by omega))
   have hex:=(ab.out.trans ak.out).grown a7 (Nat.le_refl _)
   clear a7 r7 g7
   generalize wr.setCell _ _=wy at *
   go_wp2_with (first | ((with_reducible show Jl 40);refine Aa rfl 40 _ rfl rfl (cq.has) Ah rfl ?_) | ((with_reducible show Js 40);refine Ac rfl 40 _ _ rfl (cu) rfl (cs:=E.cells ⟨op,ew,v,sig,hi,lo,n,rr⟩ (.slice ar l.length aj)) rfl Ah rfl rfl rfl ?_;intro w7 au am))
   refine Ak rfl rfl rfl au.has Ah rfl rfl (.inr ⟨_,_,bs.out,rfl,fun W hW=>⟨_,rfl,cw.sl (V:=VE) (At:=EAt) (fun _ _ _ _ _ h hv=>VE.at h hv) ((Al.of_grown am (by omega)).trans (hW.mono (by omega)))⟩,hex.grown am (by omega)⟩)
theorem Dc.again {w w3 w' j:World} {o:Except Int E} {r:Ending} (h:Dc w3 o r w') (hx:Ext w w3) (u:Ext w j) (hs:Al w3.heap.size w' j):Dc w o r j:=by
 rcases h with ⟨g,h1,h2,h3,h4⟩ | ⟨y,cs,h1,h2,h3,h4⟩
 ·exact .inl ⟨g,h1,h2,h3,u⟩
 ·exact .inr ⟨y,cs,h1,h2,(h3.since hs).mono hx.size,u⟩
theorem Abx (l:List Value):(l.map fun v=>[v]).flatten=l:=by
 induction l with
 | nil=>rfl
 | cons x l ih=>simp [ih]
theorem C1 {P:Program} {j:Array Oper} {rest:List Oper} {o:Oper} {a:Act} {w:World} {Q:Exit->Act->World->Prop} (hw:Region.wanted o (yielded j a.tmps)=true) (t:TypeId) (n:Nat) (ps:Array (Nat × Operand))
  (ho:o.op=.buildSlice t n ps) {e:TypeId} (hT:H7 P t e 1 8) (l:List Int) (hx:ps.toList.map (fun p=>(p.1,a.eval p.2))=((ints l).zipIdx 0).map fun x=>(x.2,x.1)) (hn:l.length=n) (h0:0<n) (hm:n*1<=16777216)
  (h:wpList P j Q rest (a.put o.dst (.slice (some ⟨w.heap.size,0,none⟩) n n)) (w.alloc (.cells (ints l).toArray e))):wpList P j Q (o::rest) a w:=by
 refine Dq hw t n ps ho hT (vs:=ints l) hx (by simpa using hn) (css:=(ints l).map fun v=>[v]) (by simp [ints,Value.cells]) (by intro cs hc;obtain ⟨v,-,rfl⟩:=List.mem_map.1 hc;rfl) h0 hm ?_
 rw [Abx];exact h
def Ov (w0:World) (x:E) (cs:List Value):Prop:=∀ (ws:List Int) (s':Value) (W:World),Ext w0 W->Is W s' ws->x.l.length<=ws.length->(∀ v∈ws,v = -1\/0<=v/\v<=9223372036854775807) ->
 Calls Tryz.prog 177 #[.agg cs.toArray,s'] W (Dc W (Bm x ws))
theorem V4 (x:E) (ih:∀ y∈x.l,F7 y) (al:∀ y∈x.l,G8 y) (hl:x.l.length=1) (wd:Int) (aq:0<=wd) (ar:wd<=9223372036854775807) (cs:List Value) (w:World) (hV:VE w cs x) :
  Calls Tryz.prog 178 #[.agg cs.toArray,.int .i64 wd] w (Dc w (G3 x wd)):=by
 obtain ⟨op,ew,v,sig,hi,lo,n,l⟩:=x
 obtain ⟨s,rfl,hs⟩:=hV
 have HX:=(Ab w (.cells (E.cells ⟨op,ew,v,sig,hi,lo,n,l⟩ s).toArray 40)).alloc (.cells A0.toArray 40)
 have aj:=(Has.alloc w (E.cells ⟨op,ew,v,sig,hi,lo,n,l⟩ s) 40).ext (Ab _ (.cells A0.toArray 40))
 have ag:=Blk.new (w.alloc (.cells (E.cells ⟨op,ew,v,sig,hi,lo,n,l⟩ s).toArray 40)) A0.toArray 40
 simp only [World.size_alloc] at ag
 have hu:=fun W (hx:Ext w W)=>(show Ov W ⟨op,ew,v,sig,hi,lo,n,l⟩ (E.cells ⟨op,ew,v,sig,hi,lo,n,l⟩ s) from fun ws s' W' ao hI h1 h2=>Ky ⟨op,ew,v,sig,hi,lo,n,l⟩ ih al (by omega) ws h1 h2 _ s' W' ⟨s,rfl,hs.ext (hx.trans ao)⟩ hI)
 simp only at hl
 have HL:=Jh hl
 clear hs ih al hl
 have ai:=Jh (show G3 ⟨op,ew,v,sig,hi,lo,n,l⟩ wd=_ from by unfold G3;rfl)
 go_enter Tryz.func178,Tryz.ntmps178
 go_upto_region 1 with (fail)
 generalize (w.alloc _).alloc _=w0 at *
 have HB:=Jh aj
 have K1:=Jh ag
 have ap:w.heap.size+1<w0.heap.size:=ag.lt
 have HU:=Jh (hu w0 HX)
 replace HX:=Jh HX
 have ak:=Jh (Below.refl w0.heap.size w0)
 have g6:=aj 6 _ rfl
 clear aj ag hu
 by_cases h2:n<=2
 ·have HM:=Jh (show G3 ⟨op,ew,v,sig,hi,lo,n,l⟩ wd=Bm ⟨op,ew,v,sig,hi,lo,n,l⟩ [wd] by rw [ai.out];(try simp only);rw [if_pos h2])
  go_wp2_with (first | ((with_reducible show Jl 40);refine Aa rfl 40 _ rfl rfl (HB.out) Ah rfl ?_) | ((with_reducible show Jw (Op.buildSlice _ _ _));refine C1 rfl _ 1 _ rfl Dh [wd] rfl rfl (by decide) (by decide) ?_) | (go_at_call 177;refine (HU.out [wd] _ _ (ak.out.trans (Ab w0 _)) (Blk.ints (Blk.new w0 (ints [wd]).toArray 3) 1 (Nat.le_refl _) (by simp only [maxLen];decide)) (by simp [HL.out]) (by intro v hv;simp at hv;omega)).mono ?_;intro r w3 j;obtain ⟨af,g,rfl,h8,ab,u,-⟩:=j.open;have ae:=Jh j;clear j) | ((with_reducible show Js 40);refine Ac rfl 40 _ _ rfl ((K1.out.ext (Ab w0 _)).ext u) rfl (cs:=af) rfl Ah h8 rfl ab ?_;intro w7 ac aa))
  have am:=u.size
  have an:w0.heap.size<(w0.alloc (.cells (ints [wd]).toArray 3)).heap.size:=by simp
  refine Ak rfl rfl rfl ac.has Ah h8 rfl ?_
  rw [HM.out]
  exact ae.out.again (HX.out.trans (Ab w0 _)) ((HX.out.trans ((Ab w0 _).trans u)).grown aa (by omega)) (Al.of_grown aa (by omega))
 by_cases hw:wd=1
 ·obtain rfl:=hw
  have b1:((1:Int) != 1)=false:=rfl
  by_cases h6:n=6
  ·have HM:=Jh (show G3 ⟨op,ew,v,sig,hi,lo,n,l⟩ 1=Bm ⟨op,ew,v,sig,hi,lo,n,l⟩ [-1] by rw [ai.out];simp [h6])
   have b6:(n==6)=true:=by rw [beq_iff_eq];exact h6
   clear h6
   go_wp2_with (first | ((with_reducible show Jl 40);refine Aa rfl 40 _ rfl rfl (HB.out) Ah rfl ?_) | ((with_reducible show Jw (Op.buildSlice _ _ _));refine C1 rfl _ 1 _ rfl Dh [-1] rfl rfl (by decide) (by decide) ?_) | (go_at_call 177;refine (HU.out [-1] _ _ (ak.out.trans (Ab w0 _)) (Blk.ints (Blk.new w0 (ints [-1]).toArray 3) 1 (Nat.le_refl _) (by simp only [maxLen];decide)) (by simp [HL.out]) (by intro v hv;simp at hv;omega)).mono ?_;intro r w3 j;obtain ⟨af,g,rfl,h8,ab,u,-⟩:=j.open;have ae:=Jh j;clear j) | ((with_reducible show Js 40);refine Ac rfl 40 _ _ rfl ((K1.out.ext (Ab w0 _)).ext u) rfl (cs:=af) rfl Ah h8 rfl ab ?_;intro w7 ac aa))
   have am:=u.size
   have an:w0.heap.size<(w0.alloc (.cells (ints [-1]).toArray 3)).heap.size:=by simp
   refine Ak rfl rfl rfl ac.has Ah h8 rfl ?_
   rw [HM.out]
   exact ae.out.again (HX.out.trans (Ab w0 _)) ((HX.out.trans ((Ab w0 _).trans u)).grown aa (by omega)) (Al.of_grown aa (by omega))
  ·have HM:=Jh (show G3 ⟨op,ew,v,sig,hi,lo,n,l⟩ 1=Bm ⟨op,ew,v,sig,hi,lo,n,l⟩ [0] by rw [ai.out];simp [h2,h6])
   have b6:(n==6)=false:=by rw [beq_eq_false_iff_ne];exact h6
   clear h6
   go_wp2_with (first | ((with_reducible show Jl 40);refine Aa rfl 40 _ rfl rfl (HB.out) Ah rfl ?_) | ((with_reducible show Jw (Op.buildSlice _ _ _));refine C1 rfl _ 1 _ rfl Dh [0] rfl rfl (by decide) (by decide) ?_) | (go_at_call 177;refine (HU.out [0] _ _ (ak.out.trans (Ab w0 _)) (Blk.ints (Blk.new w0 (ints [0]).toArray 3) 1 (Nat.le_refl _) (by simp only [maxLen];decide)) (by simp [HL.out]) (by intro v hv;simp at hv;omega)).mono ?_;intro r w3 j;obtain ⟨af,g,rfl,h8,ab,u,-⟩:=j.open;have ae:=Jh j;clear j) | ((with_reducible show Js 40);refine Ac rfl 40 _ _ rfl ((K1.out.ext (Ab w0 _)).ext u) rfl (cs:=af) rfl Ah h8 rfl ab ?_;intro w7 ac aa))
   have am:=u.size
   have an:w0.heap.size<(w0.alloc (.cells (ints [0]).toArray 3)).heap.size:=by simp
   refine Ak rfl rfl rfl ac.has Ah h8 rfl ?_
   rw [HM.out]
   exact ae.out.again (HX.out.trans (Ab w0 _)) ((HX.out.trans ((Ab w0 _).trans u)).grown aa (by omega)) (Al.of_grown aa (by omega))
 ·have HM:=Jh (show G3 ⟨op,ew,v,sig,hi,lo,n,l⟩ wd=.error 90 by rw [ai.out];simp [h2,hw])
  have b1:(wd != 1)=true:=by rw [bne_iff_ne];exact hw
  clear hw
  go_wp2_with (first | ((with_reducible show Js 40);refine Ac rfl 40 _ _ rfl (K1.out) rfl (cs:=A0) rfl Ah rfl rfl rfl ?_;intro w7 ac aa))
  refine Ak rfl rfl rfl ac.has Ah rfl rfl (.inl ⟨90,HM.out,by omega,rfl,HX.out.grown aa (by omega)⟩)
theorem R5 (x:E) (ih:∀ y∈x.l,F7 y) (al:∀ y∈x.l,G8 y) (hl:x.l.length=2) (ap:0<=own.fst x.l/\own.fst x.l<=9223372036854775807) (wd:Int) (a3:0<=wd) (a4:wd<=9223372036854775807) (cs:List Value) (w:World) (hV:VE w cs x) :
  Calls Tryz.prog 179 #[.agg cs.toArray,.int .i64 wd] w (Dc w (D8 x wd)):=by
 obtain ⟨op,ew,v,sig,hi,lo,n,l⟩:=x
 simp only at hl
 obtain ⟨x,y,rfl⟩:=Ahg hl
 obtain ⟨s,rfl,hs⟩:=hV
 obtain ⟨a,b,o,cap,rfl,ah,a2,ha,hr⟩:=hs.open
 obtain rfl:=ha (by simp)
 have av:=al x (by simp)
 have aw:=al y (by simp)
 have HX:=(Ab w (.cells (E.cells ⟨op,ew,v,sig,hi,lo,n,[x,y]⟩ (.slice (some ⟨b,o,Option.none⟩) 2 cap)).toArray 40)).alloc (.cells A0.toArray 40)
 have aq:=(Has.alloc w (E.cells ⟨op,ew,v,sig,hi,lo,n,[x,y]⟩ (.slice (some ⟨b,o,Option.none⟩) 2 cap)) 40).ext (Ab _ (.cells A0.toArray 40))
 have ak:=Blk.new (w.alloc (.cells (E.cells ⟨op,ew,v,sig,hi,lo,n,[x,y]⟩ (.slice (some ⟨b,o,Option.none⟩) 2 cap)).toArray 40)) A0.toArray 40
 simp only [World.size_alloc] at ak
 have hu:=fun W (hx:Ext w W)=>(show Ov W ⟨op,ew,v,sig,hi,lo,n,[x,y]⟩ (E.cells ⟨op,ew,v,sig,hi,lo,n,[x,y]⟩ (.slice (some ⟨b,o,Option.none⟩) 2 cap)) from fun ws s' W' ai hI h1 h2=>Ky ⟨op,ew,v,sig,hi,lo,n,[x,y]⟩ ih al (by simp) ws h1 h2 _ s' W' ⟨_,rfl,hs.ext (hx.trans ai)⟩ hI)
 obtain ⟨s',q1,q2⟩:=Es.get (hr.mono fun x _ b o h=>EAt.ext' (Below.refl _ _) h) (k:=0) (by simp)
 obtain ⟨s2,q3,q4⟩:=Es.get (hr.mono fun x _ b o h=>EAt.ext' (Below.refl _ _) h) (k:=1) (by simp)
 simp only [Jb,Jc,Nat.zero_mul,Nat.add_zero,Nat.one_mul,List.length_cons,List.length_nil,Nat.zero_add] at q1 q2 q3 q4 ah ap
 have hc:=fun W (ai:Ext w W)=>Iq x y av aw _ _ W (⟨s',rfl,q2.ext ai⟩) (⟨s2,rfl,q4.ext ai⟩)
 have ao:own.fst [x,y]=(if own x=0 then own y else own x):=by simp [own.fst];split<;>simp_all
 obtain ⟨t,ht⟩:∃ t,own.fst [x,y]=t:=⟨_,rfl⟩
 rw [<-ao,ht] at hc
 rw [ht] at ap
 have aj:=Jh (show D8 ⟨op,ew,v,sig,hi,lo,n,[x,y]⟩ wd=_ from by unfold D8;simp only [ht];rfl)
 clear hs ih al hl ha hr av aw ao ht
 go_enter Tryz.func179,Tryz.ntmps179
 go_upto_region 1 with (fail)
 generalize (w.alloc _).alloc _=w0 at *
 have HB:=Jh aq
 have K1:=Jh ak
 have a0:w.heap.size+1<w0.heap.size:=ak.lt
 have HU:=Jh (hu w0 HX)
 replace HX:=Jh HX
 have ar:=Jh (Below.refl w0.heap.size w0)
 have g6:=aq 6 _ rfl
 have ay:=Jh (q1.ext HX.out)
 have az:=Jh (q3.ext HX.out)
 have HC:=Jh (fun W (ai:Ext w0 W)=>hc W (HX.out.trans ai))
 clear aq ak hu q1 q2 q3 q4 hc
 by_cases h2:n<=16
 ·have HM:=Jh (show D8 ⟨op,ew,v,sig,hi,lo,n,[x,y]⟩ wd=Bm ⟨op,ew,v,sig,hi,lo,n,[x,y]⟩ [wd,wd] by rw [aj.out];(try simp only);rw [if_pos h2])
  go_wp2_with (first | ((with_reducible show Jl 40);refine Aa rfl 40 _ rfl rfl (HB.out) Ah rfl ?_) | ((with_reducible show Jw (Op.buildSlice _ _ _));refine C1 rfl _ 2 _ rfl Dh [wd,wd] rfl rfl (by decide) (by decide) ?_) | (go_at_call 177;refine (HU.out [wd,wd] _ _ (ar.out.trans (Ab w0 _)) (Blk.ints (Blk.new w0 (ints [wd,wd]).toArray 3) 2 (Nat.le_refl _) (by simp only [maxLen];decide)) (by simp) (by intro v hv;simp at hv;omega)).mono ?_;intro r w3 j;obtain ⟨af,g,rfl,h8,ab,u,-⟩:=j.open;have ae:=Jh j;clear j) | ((with_reducible show Js 40);refine Ac rfl 40 _ _ rfl ((K1.out.ext (Ab w0 _)).ext u) rfl (cs:=af) rfl Ah h8 rfl ab ?_;intro w7 ac aa))
  have am:=u.size
  have an:w0.heap.size<(w0.alloc (.cells (ints [wd,wd]).toArray 3)).heap.size:=by simp
  refine Ak rfl rfl rfl ac.has Ah h8 rfl ?_
  rw [HM.out]
  exact ae.out.again (HX.out.trans (Ab w0 _)) ((HX.out.trans ((Ab w0 _).trans u)).grown aa (by omega)) (Al.of_grown aa (by omega))
 by_cases h3:n<=18
 ·have HM:=Jh (show D8 ⟨op,ew,v,sig,hi,lo,n,[x,y]⟩ wd=Bm ⟨op,ew,v,sig,hi,lo,n,[x,y]⟩ [wd,0] by rw [aj.out];(try simp only);rw [if_neg h2,if_pos h3])
  go_wp2_with (first | ((with_reducible show Jl 40);refine Aa rfl 40 _ rfl rfl (HB.out) Ah rfl ?_) | ((with_reducible show Jw (Op.buildSlice _ _ _));refine C1 rfl _ 2 _ rfl Dh [wd,0] rfl rfl (by decide) (by decide) ?_) | (go_at_call 177;refine (HU.out [wd,0] _ _ (ar.out.trans (Ab w0 _)) (Blk.ints (Blk.new w0 (ints [wd,0]).toArray 3) 2 (Nat.le_refl _) (by simp only [maxLen];decide)) (by simp) (by intro v hv;simp at hv;omega)).mono ?_;intro r w3 j;obtain ⟨af,g,rfl,h8,ab,u,-⟩:=j.open;have ae:=Jh j;clear j) | ((with_reducible show Js 40);refine Ac rfl 40 _ _ rfl ((K1.out.ext (Ab w0 _)).ext u) rfl (cs:=af) rfl Ah h8 rfl ab ?_;intro w7 ac aa))
  have am:=u.size
  have an:w0.heap.size<(w0.alloc (.cells (ints [wd,0]).toArray 3)).heap.size:=by simp
  refine Ak rfl rfl rfl ac.has Ah h8 rfl ?_
  rw [HM.out]
  exact ae.out.again (HX.out.trans (Ab w0 _)) ((HX.out.trans ((Ab w0 _).trans u)).grown aa (by omega)) (Al.of_grown aa (by omega))
 by_cases hw:wd=1
 ·obtain rfl:=hw
  have b1:((1:Int) != 1)=false:=rfl
  by_cases h6:25<=n
  ·have HM:=Jh (show D8 ⟨op,ew,v,sig,hi,lo,n,[x,y]⟩ 1=Bm ⟨op,ew,v,sig,hi,lo,n,[x,y]⟩ [-1,-1] by rw [aj.out];(try simp only);rw [if_neg h2,if_neg h3,if_neg (by decide),if_pos h6])
   go_wp2_with (first | ((with_reducible show Jl 40);refine Aa rfl 40 _ rfl rfl (HB.out) Ah rfl ?_) | ((with_reducible show Jw (Op.buildSlice _ _ _));refine C1 rfl _ 2 _ rfl Dh [-1,-1] rfl rfl (by decide) (by decide) ?_) | (go_at_call 177;refine (HU.out [-1,-1] _ _ (ar.out.trans (Ab w0 _)) (Blk.ints (Blk.new w0 (ints [-1,-1]).toArray 3) 2 (Nat.le_refl _) (by simp only [maxLen];decide)) (by simp) (by intro v hv;simp at hv;omega)).mono ?_;intro r w3 j;obtain ⟨af,g,rfl,h8,ab,u,-⟩:=j.open;have ae:=Jh j;clear j) | ((with_reducible show Js 40);refine Ac rfl 40 _ _ rfl ((K1.out.ext (Ab w0 _)).ext u) rfl (cs:=af) rfl Ah h8 rfl ab ?_;intro w7 ac aa))
   have am:=u.size
   have an:w0.heap.size<(w0.alloc (.cells (ints [-1,-1]).toArray 3)).heap.size:=by simp
   refine Ak rfl rfl rfl ac.has Ah h8 rfl ?_
   rw [HM.out]
   exact ae.out.again (HX.out.trans (Ab w0 _)) ((HX.out.trans ((Ab w0 _).trans u)).grown aa (by omega)) (Al.of_grown aa (by omega))
  ·have hm:D8 ⟨op,ew,v,sig,hi,lo,n,[x,y]⟩ 1=Bm ⟨op,ew,v,sig,hi,lo,n,[x,y]⟩ [Bw t 32,Bw t 32]:=by rw [aj.out];(try simp only);rw [if_neg h2,if_neg h3,if_neg (by decide),if_neg h6]
   have HM:=Jh hm
   clear hm
   go_upto_region 9 with fail
   refine Jg w0 fun hH=>?_
   try simp only [J]
   (refine Jt 0 _ rfl (yif_load1 rfl (by intro W hW;clear hW;go_simp;rfl)) hH ?_;try simp only [J])
   (refine Jt 1 (.slice (some ⟨b,o,Option.none⟩) 2 cap) rfl (yif_load1 rfl (by intro W hW;have y7:=(HB.out.ext hW) 7 _ rfl;clear hW;go_simp)) hH ?_;try simp only [J])
   (refine Jk 2 (.pointer (some ⟨b,o,Option.none⟩)) rfl hH ?_;try simp only [J])
   (refine Jt 3 (.agg (x.cells s').toArray) rfl (Ar rfl 40 _ rfl rfl (fun W hW=>ay.out.ext hW) Ah rfl) hH ?_;try simp only [J])
   (refine Jt 4 _ rfl (yif_load1 rfl (by intro W hW;clear hW;go_simp;rfl)) hH ?_;try simp only [J])
   (refine Jt 5 (.slice (some ⟨b,o,Option.none⟩) 2 cap) rfl (yif_load1 rfl (by intro W hW;have y7:=(HB.out.ext hW) 7 _ rfl;clear hW;go_simp)) hH ?_;try simp only [J])
   (refine Jk 6 (.pointer (some ⟨b,o+8,Option.none⟩)) rfl hH ?_;try simp only [J])
   (refine Jt 7 (.agg (y.cells s2).toArray) rfl (Ar rfl 40 _ rfl rfl (fun W hW=>az.out.ext hW) Ah rfl) hH ?_;try simp only [J])
   refine Jr 8 rfl fun K hK=>?_
   go_simp
   refine (HC.out _ hH).mono ?_
   rintro r w1 ⟨rfl,ax⟩
   refine hK.out _ _ (hH.trans ax) (fun hH=>?_)
   clear hK K
   try simp only [J]
   (refine Ji 9 _ rfl hH ?_;try simp only [J])
   refine Jz ?_
   have ag:=Jh hH
   have a1:=hH.size
   have au:=Jh (HB.out.ext hH)
   have K2:=Jh (K1.out.ext hH)
   clear hH ax
   by_cases h0:t=0
   ·have b0:(t==0)=true:=by rw [beq_iff_eq];exact h0
    have hm:=HM.out
    rw [show Bw t 32=32 by simp [Bw,h0]] at hm
    replace HM:=Jh hm
    clear hm h0
    go_wp2_with (first | ((with_reducible show Jl 40);refine Aa rfl 40 _ rfl rfl (au.out) Ah rfl ?_) | ((with_reducible show Jw (Op.buildSlice _ _ _));refine C1 rfl _ 2 _ rfl Dh [32,32] rfl rfl (by decide) (by decide) ?_) | (go_at_call 177;refine (HU.out [32,32] _ _ (ag.out.trans (Ab w1 _)) (Blk.ints (Blk.new w1 (ints [32,32]).toArray 3) 2 (Nat.le_refl _) (by simp only [maxLen];decide)) (by simp) (by intro v hv;simp at hv;omega)).mono ?_;intro r w3 j;obtain ⟨af,g,rfl,h8,ab,u,-⟩:=j.open;have ae:=Jh j;clear j) | ((with_reducible show Js 40);refine Ac rfl 40 _ _ rfl ((K2.out.ext (Ab w1 _)).ext u) rfl (cs:=af) rfl Ah h8 rfl ab ?_;intro w7 ac aa))
    have am:=u.size
    have an:w1.heap.size<(w1.alloc (.cells (ints [32,32]).toArray 3)).heap.size:=by simp
    refine Ak rfl rfl rfl ac.has Ah h8 rfl ?_
    rw [HM.out]
    exact ae.out.again (HX.out.trans (ag.out.trans (Ab w1 _))) ((HX.out.trans (ag.out.trans ((Ab w1 _).trans u))).grown aa (by omega)) (Al.of_grown aa (by omega))
   ·have b0:(t==0)=false:=by rw [beq_eq_false_iff_ne];exact h0
    have hm:=HM.out
    rw [show Bw t 32=t by simp [Bw,h0]] at hm
    replace HM:=Jh hm
    clear hm h0
    go_wp2_with (first | ((with_reducible show Jl 40);refine Aa rfl 40 _ rfl rfl (au.out) Ah rfl ?_) | ((with_reducible show Jw (Op.buildSlice _ _ _));refine C1 rfl _ 2 _ rfl Dh [t,t] rfl rfl (by decide) (by decide) ?_) | (go_at_call 177;refine (HU.out [t,t] _ _ (ag.out.trans (Ab w1 _)) (Blk.ints (Blk.new w1 (ints [t,t]).toArray 3) 2 (Nat.le_refl _) (by simp only [maxLen];decide)) (by simp) (by intro v hv;simp at hv;omega)).mono ?_;intro r w3 j;obtain ⟨af,g,rfl,h8,ab,u,-⟩:=j.open;have ae:=Jh j;clear j) | ((with_reducible show Js 40);refine Ac rfl 40 _ _ rfl ((K2.out.ext (Ab w1 _)).ext u) rfl (cs:=af) rfl Ah h8 rfl ab ?_;intro w7 ac aa))
    have am:=u.size
    have an:w1.heap.size<(w1.alloc (.cells (ints [t,t]).toArray 3)).heap.size:=by simp
    refine Ak rfl rfl rfl ac.has Ah h8 rfl ?_
    rw [HM.out]
    exact ae.out.again (HX.out.trans (ag.out.trans (Ab w1 _))) ((HX.out.trans (ag.out.trans ((Ab w1 _).trans u))).grown aa (by omega)) (Al.of_grown aa (by omega))
 ·have HM:=Jh (show D8 ⟨op,ew,v,sig,hi,lo,n,[x,y]⟩ wd=.error 90 by rw [aj.out];(try simp only);rw [if_neg h2,if_neg h3,if_pos hw])
  have b1:(wd != 1)=true:=by rw [bne_iff_ne];exact hw
  clear hw
  go_wp2_with (first | ((with_reducible show Js 40);refine Ac rfl 40 _ _ rfl (K1.out) rfl (cs:=A0) rfl Ah rfl rfl rfl ?_;intro w7 ac aa))
  refine Ak rfl rfl rfl ac.has Ah rfl rfl (.inl ⟨90,HM.out,by omega,rfl,HX.out.grown aa (by omega)⟩)
end Go.Proofs.YtbliplladmamoaaGreat
