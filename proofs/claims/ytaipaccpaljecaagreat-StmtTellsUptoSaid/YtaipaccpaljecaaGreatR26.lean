/- Laws and walks that a claim of this seat leans on: Ref2, Ref3, Ref4, Ref5. -/
import Derived.Test.YtaipaccpaljecaaGreatRRef1
import Derived.Test.YtaipaccpaljecaaGreatR02
import Derived.Test.YtaipaccpaljecaaGreatR08
import Derived.Test.YtaipaccpaljecaaGreatRStmtS
import Derived.Test.YtaipaccpaljecaaGreatR16
import Derived.Test.YtaipaccpaljecaaGreatR00
set_option maxRecDepth 100000
set_option maxHeartbeats 8000000
set_option linter.all false
namespace Go.Proofs.YtaipaccpaljecaaGreat
open Go.RowKit
def ShapeRSaid (ls:List Signal) (x:E):Prop:=∀ (s0:Value) (cs:List Value) (w:World),Sigs w s0 ls->VE w cs x->x.wf ->
 Calls Tryz.prog 192 #[s0,.agg cs.toArray] w fun r w'=>r=.returned (.bool (shape ls x))/\Ext w w'
theorem shapes_callsR (ls:List Signal) (l:List E) (ih:∀ x∈l,ShapeRSaid ls x) (hwf:∀ x∈l,x.wf) (s0 s:Value) (w:World) (hS:Sigs w s0 ls) (h:Es w s l) :
  Calls Tryz.prog 240 #[s0,s] w fun r w'=>r=.returned (.bool (l.all (shape ls)))/\Ext w w':=by
 have IH:=Jh ih
 have HWF:=Jh hwf
 have HS:=Jh hS
 clear ih hwf hS
 obtain ⟨a,b,o,cap,hs,hc1,hc2,ha,hr⟩:=h.open
 subst hs
 go_enter Tryz.func240,Tryz.ntmps240
 go_wp2_with fail
 go_loopw [5] (fun i wr=>∃ k:Nat,k<=l.length/\i=.int .i64 k/\(l.take k).all (shape ls)=true/\Ext w wr) (fun i _=>l.length-(intOf i).toNat)
 case atStart=>exact ⟨0,Nat.zero_le _,rfl,rfl,Below.refl _ _⟩
 case round =>
  obtain ⟨k,hk,rfl,hno,hB⟩:=hrel
  have HNO:=Jh hno
  clear hno
  by_cases hlt:k<l.length
  ·obtain ⟨cs,he1,hn,he2⟩:=VE.get (hr.mono fun x _ b o h=>EAt.ext' hB h) hlt
   obtain rfl:=ha (by omega)
   have hmem:l[k]∈l:=List.getElem_mem hlt
   have HC:=Jh (IH.out _ hmem s0 cs wr (HS.out.ext hB) he2 (HWF.out _ hmem))
   have HT:=Jh (take_snoc l k hlt)
   generalize hek:l[k]=ek at *
   cases hp:shape ls ek with
   | true =>
    rw [hp] at HC
    have HP:=Jh hp
    clear hp hek
    go_wp2_with (first | ((with_reducible show Jl 64);refine Jm 64 (he1) agg_E hn ?_) | (go_at_call 192;refine HC.out.mono ?_;rintro r w1 ⟨rfl,hx1⟩))
    go_roundw
    case rel=>exact ⟨k+1,by omega,by go_num,by rw [HT.out,List.all_append,HNO.out];simp [HP.out],hB.trans hx1⟩
    case measure=>simp [intOf];omega
   | false =>
    rw [hp] at HC
    have HP:=Jh (show l.all (shape ls)=false from by
     rw [List.all_eq_false];exact ⟨ek,hmem,by simp [hp]⟩)
    clear hp hek
    go_wp2_with (first | ((with_reducible show Jl 64);refine Jm 64 (he1) agg_E hn ?_) | (go_at_call 192;refine HC.out.mono ?_;rintro r w1 ⟨rfl,hx1⟩))
    go_ret
    exact ⟨ret_bool HP.out.symm,hB.trans hx1⟩
  ·obtain rfl:k=l.length:=by omega
   have hf:=HNO.out
   rw [List.take_length] at hf
   have HF:=Jh hf
   clear hf
   go_wp2_with fail
   go_ret
   exact ⟨ret_bool HF.out.symm,hB⟩
theorem Shape_callsR (ls:List Signal) (e:E):ShapeRSaid ls e:=by
 induction e using E.ind with
 | h e ih =>
 intro s0 cs w hS hV hwf
 have HSE:=Jh (show shape ls e=_ from (shape_eq ls e).trans (by rw [shape0_parts]))
 have hwl:=((E.wf_iff e).1 hwf).2.2.2.2.2.2.2
 obtain ⟨s,rfl,hs⟩:=hV
 have hx:=ext_alloc w (.cells (e.cells s).toArray 64)
 have hb:=Has.alloc w (e.cells s) 64
 have HP:=Jh (fun W (hx':Ext w W)=>parts_callsR e _ W ⟨s,rfl,hs.ext hx'⟩)
 have HFI:=Jh (fun W (hx':Ext w W)=>fields_callsR ls e s0 _ W (hS.ext hx') ⟨s,rfl,hs.ext hx'⟩ hwf)
 have HSH:=Jh (fun W (hx':Ext w W)=>shapes_callsR ls e.l ih hwl s0 s W (hS.ext hx') (hs.ext hx'))
 clear ih hwl
 obtain ⟨a,b,o,cap,rfl,hc1,hc2,-,-⟩:=hs.open
 go_enter Tryz.func192,Tryz.ntmps192
 go_upto_region 1 with fail
 generalize w.alloc _=w0 at *
 have HX:=Jh hx
 have HB:=Jh hb
 clear hx hb hs hS hwf
 cases hp:partsR e.op e.l.length with
 | false =>
  have HE:=Jh (show shape ls e=false by rw [HSE.out,hp];rfl)
  rw [hp] at HP
  clear hp
  go_wp2_with (first | ((with_reducible show Jl 64);refine Jm 64 (HB.out) agg_E rfl ?_) | (go_at_call 238;refine (HP.out _ HX.out).mono ?_;rintro r w1 ⟨rfl,hx1⟩))
  go_ret
  exact ⟨ret_bool HE.out.symm,HX.out.trans hx1⟩
 | true =>
  rw [hp] at HP
  cases hf:fieldsR ls e.op e.w e.v e.sig e.hi e.lo e.n with
  | false =>
   have HE:=Jh (show shape ls e=false by rw [HSE.out,hp,hf];rfl)
   rw [hf] at HFI
   clear hp hf
   go_wp2_with (first | ((with_reducible show Jl 64);refine Jm 64 (HB.out) agg_E rfl ?_) | ((with_reducible show Jl 64);refine Jm 64 (HB2.out) agg_E rfl ?_) | (go_at_call 238;refine (HP.out _ HX.out).mono ?_;rintro r w1 ⟨rfl,hx1⟩;have HB2:=Jh (HB.out.ext hx1)) | (go_at_call 239;refine (HFI.out _ (HX.out.trans hx1)).mono ?_;rintro r w2 ⟨rfl,hx2⟩))
   go_ret
   exact ⟨ret_bool HE.out.symm,HX.out.trans (hx1.trans hx2)⟩
  | true =>
   have HE:=Jh (show shape ls e=e.l.all (shape ls) by rw [HSE.out,hp,hf];simp)
   rw [hf] at HFI
   clear hp hf
   go_wp2_with (first | ((with_reducible show Jl 64);refine Jm 64 (HB.out) agg_E rfl ?_) | ((with_reducible show Jl 64);refine Jm 64 (HB2.out) agg_E rfl ?_) | (go_at_call 238;refine (HP.out _ HX.out).mono ?_;rintro r w1 ⟨rfl,hx1⟩;have HB2:=Jh (HB.out.ext hx1)) | (go_at_call 239;refine (HFI.out _ (HX.out.trans hx1)).mono ?_;rintro r w2 ⟨rfl,hx2⟩;have y7:=(HB2.out.ext hx2) 7 _ rfl) | (go_at_call 240;refine (HSH.out _ (HX.out.trans (hx1.trans hx2))).mono ?_;rintro r w3 ⟨rfl,hx3⟩))
   go_ret
   exact ⟨ret_bool HE.out.symm,HX.out.trans (hx1.trans (hx2.trans hx3))⟩
def OwnRSaid (x:E):Prop:=∀ (cs:List Value) (w:World),VE w cs x ->
 Calls Tryz.prog 196 #[.agg cs.toArray] w fun r w'=>r=.returned (.int .i64 (own x))/\Ext w w'
theorem either_callsR (x y:E) (hx:OwnRSaid x) (hy:OwnRSaid y) (cs cs':List Value) (w:World) (h:VE w cs x) (h':VE w cs' y) :
  Calls Tryz.prog 242 #[.agg cs.toArray,.agg cs'.toArray] w fun r w'=>r=.returned (.int .i64 (if own x=0 then own y else own x))/\Ext w w':=by
 have HX1:=Jh (fun W (hx':Ext w W)=>hx cs W (h.ext hx'))
 have HY1:=Jh (fun W (hx':Ext w W)=>hy cs' W (h'.ext hx'))
 obtain ⟨q,hq⟩:∃ q,own x=q:=⟨_,rfl⟩
 obtain ⟨q',hq'⟩:∃ q,own y=q:=⟨_,rfl⟩
 rw [hq] at HX1 ⊢
 rw [hq'] at HY1 ⊢
 clear hq hq' hx hy
 obtain ⟨t,ht⟩:∃ t,(if q=0 then q' else q)=t:=⟨_,rfl⟩
 rw [ht]
 have HT:=Jh ht
 clear ht
 obtain ⟨s,rfl,hs⟩:=h
 obtain ⟨s',rfl,hs'⟩:=h'
 have hX1:=ext_alloc w (.cells (x.cells s).toArray 64)
 have hX2:=ext_alloc (w.alloc (.cells (x.cells s).toArray 64)) (.cells (y.cells s').toArray 64)
 have hb1:=(Has.alloc w (x.cells s) 64).ext hX2
 have hb2:=Has.alloc (w.alloc (.cells (x.cells s).toArray 64)) (y.cells s') 64
 rw [World.size_alloc] at hb2
 have hX:=hX1.trans hX2
 clear hX1 hX2 hs hs'
 go_enter Tryz.func242,Tryz.ntmps242
 go_upto_region 1 with fail
 generalize (w.alloc _).alloc _=w0 at *
 have HB1:=Jh hb1
 have HB2:=Jh hb2
 have HX:=Jh hX
 clear hb1 hb2 hX
 by_cases h0:q=0
 ·have HE:=Jh (show q'=t from (if_pos h0).symm.trans HT.out)
  have b0:(q==0)=true:=by rw [beq_iff_eq];exact h0
  clear h0
  go_wp2_with (first | ((with_reducible show Jl 64);refine Jm 64 (HB1.out) agg_E rfl ?_) | (go_at_call 196;refine (HX1.out _ HX.out).mono ?_;rintro r w1 ⟨rfl,hx1⟩;have HB3:=Jh (HB2.out.ext hx1);clear HX1) | ((with_reducible show Jl 64);refine Jm 64 (HB3.out) agg_E rfl ?_) | (go_at_call 196;refine (HY1.out _ (HX.out.trans hx1)).mono ?_;rintro r w2 ⟨rfl,hx2⟩))
  go_ret
  exact ⟨ret_int HE.out,HX.out.trans (hx1.trans hx2)⟩
 ·have HE:=Jh (show q=t from (if_neg h0).symm.trans HT.out)
  have b0:(q==0)=false:=by rw [beq_eq_false_iff_ne];exact h0
  clear h0
  go_wp2_with (first | ((with_reducible show Jl 64);refine Jm 64 (HB1.out) agg_E rfl ?_) | (go_at_call 196;refine (HX1.out _ HX.out).mono ?_;rintro r w1 ⟨rfl,hx1⟩;clear HX1))
  go_ret
  exact ⟨ret_int HE.out,HX.out.trans hx1⟩
theorem len2 {α:Type} {l:List α} (h:l.length=2):∃ x y,l=[x,y]:=by
 match l,h with
 | [x,y],_=>exact ⟨x,y,rfl⟩
theorem len3 {α:Type} {l:List α} (h:l.length=3):∃ x y z,l=[x,y,z]:=by
 match l,h with
 | [x,y,z],_=>exact ⟨x,y,z,rfl⟩
theorem own_callsR {ls:List Signal} (hls:∀ x∈ls,x.w<=64) (e:E):shape ls e=true->nodes e<=1048576->OwnRSaid e:=by
 induction e using E.ind with
 | h e ih =>
 intro hsh hnb cs w hV
 have hok:=ownOk_of_shape ls hls e hsh
 have hle:=own_le e hok
 obtain ⟨h1,h2,h3,h4⟩:=(OwnOk_iff e).1 hok
 have hinv:=shape_inv hsh
 have hpar:∀ x∈e.l,OwnRSaid x:=fun x hx=>ih x hx (by rw [shape_eq,Bool.and_eq_true] at hsh;exact List.all_eq_true.1 hsh.2 x hx) (by rw [nodes_eq] at hnb;have:=le_sumBy nodes e.l _ hx;omega)
 have IH:=Jh hpar
 clear ih hpar
 have HE:=Jh (own_eq e)
 have HNE:=Jh (nodes_eq e)
 obtain ⟨s,rfl,hs⟩:=hV
 obtain ⟨a,b,o,cap,hsl,hc1,hc2,ha,hr⟩:=hs.open
 obtain ⟨op,wd,v,sig,hi,lo,n,l⟩:=e
 simp only at hsl hc1 HE IH h1 h2 h4 ha hr hinv HNE
 subst hsl
 have H2:=Jh h2
 have H4:=Jh h4
 have HR:=Jh hr
 have HA:=Jh ha
 have HLE:=Jh hle
 have HNB:=Jh hnb
 clear h1 h2 h3 h4 hs hok hr ha hle hsh hnb
 have HX:=ext_alloc w (.cells (E.cells ⟨op,wd,v,sig,hi,lo,n,l⟩ (.slice a l.length cap)).toArray 64)
 have HB:=Has.alloc w (E.cells ⟨op,wd,v,sig,hi,lo,n,l⟩ (.slice a l.length cap)) 64
 go_enter Tryz.func196,Tryz.ntmps196
 go_upto_region 1 with (fail)
 generalize w.alloc _=w0 at *
 have g0:=HB 0 _ rfl
 have hget:∀ k (hk:k<l.length),∃ s',a=some ⟨b,o,Option.none⟩/\Has w0 b (o+k*8) (l[k].cells s')/\∀ W,Ext w0 W->VE W (l[k].cells s') l[k]:=by
  intro k hk
  obtain ⟨s1,q1,q2⟩:=Es.get (HR.out.mono fun x _ b o h=>EAt.ext' HX h) hk
  exact ⟨s1,HA.out (by omega),q1,fun W hx=>⟨s1,rfl,q2.ext hx⟩⟩
 have HG:=Jh hget
 clear hget
 rcases hinv with h | h | h | h | h | h | h | h
 ·obtain ⟨rfl,-⟩:=h
  have g1:=HB 1 _ rfl
  go_wp2_with fail
  go_ret
  exact ⟨ret_int (by rw [HE.out];simp),HX⟩
 ·obtain ⟨rfl,-⟩:=h
  have h2:=H2.out rfl
  have g4:=HB 4 _ rfl
  have g5:=HB 5 _ rfl
  go_wp2_with fail
  go_ret
  exact ⟨ret_int (by rw [HE.out];simp),HX⟩
 ·obtain ⟨rfl,-⟩:=h
  go_wp2_with fail
  go_ret
  exact ⟨ret_int (by rw [HE.out];simp),HX⟩
 ·obtain ⟨rfl,hl,hn1,hn6⟩:=h
  have g6:=HB 6 _ rfl
  by_cases hn:n<=2
  ·obtain ⟨x,rfl⟩:=List.length_eq_one_iff.1 hl
   obtain ⟨s',rfl,hx0,hxv⟩:=HG.out 0 (by simp)
   simp only [Jb,Nat.zero_mul,Nat.add_zero] at hx0 hxv
   have g7:=HB 7 _ rfl
   simp only [List.length_cons,List.length_nil,Nat.zero_add] at g7
   have HC:=Jh (IH.out x (by simp) _ w0 (hxv _ (Below.refl _ _)))
   have hv:own ⟨4,wd,v,sig,hi,lo,n,[x]⟩=own x:=by rw [HE.out];simp [hn,own.hd]
   have HV:=Jh hv
   clear hxv hv
   go_wp2_with (first | ((with_reducible show Jl 64);refine Jm 64 (hx0) agg_E rfl ?_) | (go_at_call 196;refine HC.out.mono ?_;rintro r w1 ⟨rfl,hx1⟩))
   go_ret
   exact ⟨ret_int HV.out.symm,HX.trans hx1⟩
  ·have HV:=Jh (show own ⟨4,wd,v,sig,hi,lo,n,l⟩=1 by rw [HE.out];simp [show ¬ n<=2 by omega])
   go_wp2_with fail
   go_ret
   exact ⟨ret_int HV.out.symm,HX⟩
 ·obtain ⟨rfl,hl,hn1,hn6⟩:=h
  have g6:=HB 6 _ rfl
  have g7:=HB 7 _ rfl
  by_cases hn:19<=n
  ·go_wp2_with fail
   go_ret
   exact ⟨ret_int (by rw [HE.out];simp [show ¬ n<=16 by omega,show ¬ n<=18 by omega]),HX⟩
  ·obtain ⟨x,y,rfl⟩:=len2 hl
   obtain ⟨s',rfl,hx0,hxv⟩:=HG.out 0 (by simp)
   obtain ⟨s2,-,hy0,hyv⟩:=HG.out 1 (by simp)
   simp only [Jb,Jc,Nat.zero_mul,Nat.add_zero,Nat.one_mul,List.length_cons,List.length_nil,Nat.zero_add] at hx0 hxv hy0 hyv g7 hc1
   by_cases hn2:17<=n
   ·have HC:=Jh (IH.out x (by simp) _ w0 (hxv _ (Below.refl _ _)))
    have HV:=Jh (show own ⟨5,wd,v,sig,hi,lo,n,[x,y]⟩=own x by rw [HE.out];simp [show ¬ n<=16 by omega,show n<=18 by omega,own.hd])
    clear hxv hyv
    go_wp2_with (first | ((with_reducible show Jl 64);refine Jm 64 (hx0) agg_E rfl ?_) | (go_at_call 196;refine HC.out.mono ?_;rintro r w1 ⟨rfl,hx1⟩))
    go_ret
    exact ⟨ret_int HV.out.symm,HX.trans hx1⟩
   ·have HV:=Jh (show own ⟨5,wd,v,sig,hi,lo,n,[x,y]⟩=(if own x=0 then own y else own x) by
     rw [HE.out];simp [show n<=16 by omega,own.fst];split<;>simp_all)
    have HC:=Jh (fun W (hx':Ext w0 W)=>either_callsR x y (IH.out x (by simp)) (IH.out y (by simp)) _ _ W (hxv W hx') (hyv W hx'))
    obtain ⟨t,ht⟩:∃ t,(if own x=0 then own y else own x)=t:=⟨_,rfl⟩
    rw [ht] at HV HC
    clear ht
    have HX0:=Jh hx0
    have HY0:=Jh hy0
    have HB7:=Jh HB
    have HXX:=Jh HX
    clear hxv hyv hx0 hy0 HX HB
    go_upto_region 15 with fail
    refine Jg w0 fun hH=>?_
    try simp only [J]
    (refine Jt 0 (_) rfl (yif_load1 rfl fun _ _=>rfl) hH ?_;try simp only [J])
    (refine Jt 1 (.slice (some ⟨b,o,Option.none⟩) 2 cap) rfl (yif_load1 rfl (by intro W hW;have y7:=(HB7.out.ext hW) 7 _ rfl;simp only [List.length_cons,List.length_nil,Nat.zero_add] at y7;clear hW;go_simp)) hH ?_;try simp only [J])
    (refine Jt 2 (.pointer (some ⟨b,o,Option.none⟩)) rfl (yif_load1 rfl (by intro W hW;clear hW;go_simp)) hH ?_;try simp only [J])
    (refine Jt 3 (.agg (x.cells s').toArray) rfl (yif_load rfl 64 _ rfl rfl (fun W hW=>HX0.out.ext hW) agg_E rfl) hH ?_;try simp only [J])
    (refine Jt 4 (_) rfl (yif_load1 rfl fun _ _=>rfl) hH ?_;try simp only [J])
    (refine Jt 5 (.slice (some ⟨b,o,Option.none⟩) 2 cap) rfl (yif_load1 rfl (by intro W hW;have y7:=(HB7.out.ext hW) 7 _ rfl;simp only [List.length_cons,List.length_nil,Nat.zero_add] at y7;clear hW;go_simp)) hH ?_;try simp only [J])
    (refine Jt 6 (.pointer (some ⟨b,o+8,Option.none⟩)) rfl (yif_load1 rfl (by intro W hW;clear hW;go_simp)) hH ?_;try simp only [J])
    (refine Jt 7 (.agg (y.cells s2).toArray) rfl (yif_load rfl 64 _ rfl rfl (fun W hW=>HY0.out.ext hW) agg_E rfl) hH ?_;try simp only [J])
    refine Jr 8 rfl fun K hK=>?_
    go_simp
    refine (HC.out _ hH).mono ?_
    rintro r w1 ⟨rfl,hx1⟩
    refine hK.out _ _ (hH.trans hx1) (fun hH=>?_)
    clear hK K
    try simp only [J]
    (refine Jt 9 (_) rfl (yif_load1 rfl fun _ _=>rfl) hH ?_;try simp only [J])
    refine Jz ?_
    go_wp2_with fail
    go_ret
    exact ⟨ret_int HV.out.symm,HXX.out.trans hH⟩
 ·obtain ⟨rfl,hl⟩:=h
  obtain ⟨x0,x,y,rfl⟩:=len3 hl
  obtain ⟨s',rfl,hx0,hxv⟩:=HG.out 1 (by simp)
  obtain ⟨s2,-,hy0,hyv⟩:=HG.out 2 (by simp)
  simp only [Jb,Jc,Nat.zero_mul,Nat.add_zero,Nat.one_mul,List.length_cons,List.length_nil,Nat.zero_add] at hx0 hxv hy0 hyv hc1
  have HV:=Jh (show own ⟨6,wd,v,sig,hi,lo,n,[x0,x,y]⟩=(if own x=0 then own y else own x) by
   rw [HE.out];simp [own.fst2,own.fst];split<;>simp_all)
  have HC:=Jh (fun W (hx':Ext w0 W)=>either_callsR x y (IH.out x (by simp)) (IH.out y (by simp)) _ _ W (hxv W hx') (hyv W hx'))
  obtain ⟨t,ht⟩:∃ t,(if own x=0 then own y else own x)=t:=⟨_,rfl⟩
  rw [ht] at HV HC
  clear ht
  have HX0:=Jh hx0
  have HY0:=Jh hy0
  have HB7:=Jh HB
  have HXX:=Jh HX
  clear hxv hyv hx0 hy0 HX HB
  go_upto_region 17 with fail
  refine Jg w0 fun hH=>?_
  try simp only [J]
  (refine Jt 0 (_) rfl (yif_load1 rfl fun _ _=>rfl) hH ?_;try simp only [J])
  (refine Jt 1 (.slice (some ⟨b,o,Option.none⟩) 3 cap) rfl (yif_load1 rfl (by intro W hW;have y7:=(HB7.out.ext hW) 7 _ rfl;simp only [List.length_cons,List.length_nil,Nat.zero_add] at y7;clear hW;go_simp)) hH ?_;try simp only [J])
  (refine Jt 2 (.pointer (some ⟨b,o+8,Option.none⟩)) rfl (yif_load1 rfl (by intro W hW;clear hW;go_simp)) hH ?_;try simp only [J])
  (refine Jt 3 (.agg (x.cells s').toArray) rfl (yif_load rfl 64 _ rfl rfl (fun W hW=>HX0.out.ext hW) agg_E rfl) hH ?_;try simp only [J])
  (refine Jt 4 (_) rfl (yif_load1 rfl fun _ _=>rfl) hH ?_;try simp only [J])
  (refine Jt 5 (.slice (some ⟨b,o,Option.none⟩) 3 cap) rfl (yif_load1 rfl (by intro W hW;have y7:=(HB7.out.ext hW) 7 _ rfl;simp only [List.length_cons,List.length_nil,Nat.zero_add] at y7;clear hW;go_simp)) hH ?_;try simp only [J])
  (refine Jt 6 (.pointer (some ⟨b,o+2*8,Option.none⟩)) rfl (yif_load1 rfl (by intro W hW;clear hW;go_simp)) hH ?_;try simp only [J])
  (refine Jt 7 (.agg (y.cells s2).toArray) rfl (yif_load rfl 64 _ rfl rfl (fun W hW=>HY0.out.ext hW) agg_E rfl) hH ?_;try simp only [J])
  refine Jr 8 rfl fun K hK=>?_
  go_simp
  refine (HC.out _ hH).mono ?_
  rintro r w1 ⟨rfl,hx1⟩
  refine hK.out _ _ (hH.trans hx1) (fun hH=>?_)
  clear hK K
  try simp only [J]
  (refine Jt 9 (_) rfl (yif_load1 rfl fun _ _=>rfl) hH ?_;try simp only [J])
  refine Jz ?_
  go_wp2_with fail
  go_ret
  exact ⟨ret_int HV.out.symm,HXX.out.trans hH⟩
 ·obtain ⟨rfl,hl⟩:=h
  have hlen:=length_le_sumBy nodes l (fun x _=>nodes_pos x)
  have hnb:sumBy nodes l<1048576:=by have:=HNB.out;have:=HNE.out;omega
  have hV:own ⟨7,wd,v,sig,hi,lo,n,l⟩=own.cat l 0:=by rw [HE.out];simp
  have HV:=Jh hV
  clear hV
  have HBB:=Jh HB
  have HXX:=Jh HX
  have g7:=HB 7 _ rfl
  clear HB HX
  go_wp2_with fail
  clear g0 g7
  go_loopw [3,4] (fun x i wr=>∃ k:Nat,∃ m:Int,k<=l.length/\i=.int .i64 k/\x=.int .i64 m/\own.cat l 0=own.cat (l.drop k) m/\0<=m/\m<=65*sumBy nodes (l.take k)/\Ext w0 wr) (fun _ i _=>l.length-(intOf i).toNat)
  case atStart=>exact ⟨0,0,Nat.zero_le _,rfl,rfl,rfl,by omega,by omega,Below.refl _ _⟩
  case round =>
   obtain ⟨k,m,hk,rfl,rfl,hm,hm0,hm1,hB⟩:=hrel
   have HM:=Jh hm
   clear hm
   have g7:=(HBB.out.ext hB) 7 _ rfl
   by_cases hlt:k<l.length
   ·obtain ⟨s',rfl,hx0,hxv⟩:=HG.out k hlt
    have hmem:l[k]∈l:=List.getElem_mem hlt
    have how:=own_le l[k] (H4.out _ hmem)
    have htk:=sumBy_take nodes l k hlt
    have htl:=sumBy_take_le nodes l (k+1)
    rw [htk] at htl
    have hz:=own.cat_zero l k m hlt
    have ho:=own.cat_on l k m hlt
    have HC:=Jh (IH.out _ hmem _ wr (hxv _ hB))
    have HX0:=Jh (hx0.ext hB)
    clear hxv hx0
    obtain ⟨nk,hnk⟩:∃ q,nodes l[k]=q:=⟨_,rfl⟩
    obtain ⟨q,hq⟩:∃ q,own l[k]=q:=⟨_,rfl⟩
    rw [hq] at HC hz ho how
    rw [hnk] at htk htl how
    have HZ:=Jh hz
    have HO:=Jh ho
    have HTK:=Jh htk
    clear hz ho htk hq hnk
    generalize l[k]=ek at *
    by_cases h0:q=0
    ·have b0:(q==0)=true:=by rw [beq_iff_eq];exact h0
     have HF:=Jh (show own.cat l 0=0 by rw [HM.out,HZ.out h0])
     clear h0
     go_wp2_with (first | ((with_reducible show Jl 64);refine Jm 64 (HX0.out) agg_E rfl ?_) | (go_at_call 196;refine HC.out.mono ?_;rintro r w1 ⟨rfl,hx1⟩))
     go_ret
     exact ⟨ret_int (HV.out.trans HF.out).symm,HXX.out.trans (hB.trans hx1)⟩
    ·have b0:(q==0)=false:=by rw [beq_eq_false_iff_ne];exact h0
     have HF:=Jh (show own.cat l 0=_ from by rw [HM.out,HO.out h0])
     clear h0
     go_wp2_with (first | ((with_reducible show Jl 64);refine Jm 64 (HX0.out) agg_E rfl ?_) | (go_at_call 196;refine HC.out.mono ?_;rintro r w1 ⟨rfl,hx1⟩))
     go_roundw
     case rel=>exact ⟨k+1,m+q,by omega,by go_num,rfl,HF.out,by omega,by rw [HTK.out];omega,hB.trans hx1⟩
     case measure=>simp [intOf];omega
   ·obtain rfl:k=l.length:=by omega
    have HF:=Jh (show own.cat l 0=m by rw [HM.out,List.drop_length,own.cat])
    go_wp2_with fail
    go_ret
    exact ⟨ret_int (HV.out.trans HF.out).symm,HXX.out.trans hB⟩
 ·obtain ⟨rfl,-⟩:=h
  have g1:=HB 1 _ rfl
  go_wp2_with fail
  go_ret
  exact ⟨ret_int (by rw [HE.out];simp),HX⟩
def SizedRSaid (x:E):Prop:=∀ (wd:Int) (cs:List Value) (w:World),VE w cs x->0<=wd->wd<=9223372036854775807 ->
 Calls Tryz.prog 197 #[.agg cs.toArray,.int .i64 wd] w (SizePost w (sizeE x wd))
theorem under_callsR (x:E) (ih:∀ y∈x.l,SizedRSaid y) (how:∀ y∈x.l,OwnRSaid y) (hl:x.l.length<=1048576) (ws:List Int) (hws:x.l.length<=ws.length) (hok:∀ v∈ws,v = -1\/0<=v/\v<=9223372036854775807) (cs:List Value) (s':Value) (w:World) (hV:VE w cs x) (hW:Is w s' ws) :
  Calls Tryz.prog 243 #[.agg cs.toArray,s'] w (SizePost w (underM x ws)):=by
 obtain ⟨op,ew,v,sig,hi,lo,n,l⟩:=x
 simp only at ih how hl hws
 have IH:=Jh ih
 have HOW:=Jh how
 have HOK:=Jh hok
 clear ih how hok
 obtain ⟨s,rfl,hs⟩:=hV
 obtain ⟨a,b,o,cap,rfl,hc1,hc2,ha,hr⟩:=hs.open
 obtain ⟨a',b',o',cap',rfl,hc1',hc2',ha',hr'⟩:=hW.open
 simp only at hc1 hc1' ha hr
 have HR:=Jh hr
 have HA:=Jh ha
 have HR':=Jh hr'
 have HA':=Jh ha'
 clear hr ha hr' ha' hs hW
 have HX:=(ext_alloc w (.cells (E.cells ⟨op,ew,v,sig,hi,lo,n,l⟩ (.slice a l.length cap)).toArray 64)).alloc (.cells zeroE.toArray 64)
 have HB0:=(Blk.new w (E.cells ⟨op,ew,v,sig,hi,lo,n,l⟩ (.slice a l.length cap)).toArray 64).alloc (.cells zeroE.toArray 64)
 have HB1:=Blk.new (w.alloc (.cells (E.cells ⟨op,ew,v,sig,hi,lo,n,l⟩ (.slice a l.length cap)).toArray 64)) zeroE.toArray 64
 simp only [World.size_alloc] at HB1
 go_enter Tryz.func243,Tryz.ntmps243
 go_upto_region 1 with (fail)
 generalize (w.alloc _).alloc _=w0 at *
 have K0:=Jh HB0
 have K1:=Jh HB1
 have HEXW:=Jh HX
 have hlt0:w.heap.size+1<w0.heap.size:=HB1.lt
 clear HB0 HB1 HX
 go_wp2_with fail
 go_loopw [6,7,8,9,10,11] (fun u i _ _ _ _ wr=>∃ (k:Nat) (vv:Value) (rr:List E),vv=u/\k<=l.length/\i=.int .i64 k/\sizeE.sizeL (l.take k) ws=.ok rr/\rr.length=k/\RowIs VE 64 8 w0.heap.size vv rr wr/\Blk wr w.heap.size (E.cells ⟨op,ew,v,sig,hi,lo,n,l⟩ (.slice a l.length cap)).toArray 64/\Blk wr (w.heap.size+1) zeroE.toArray 64/\Ext w0 wr) (fun _ i _ _ _ _ _=>l.length-(intOf i).toNat)
 case atStart=>exact ⟨0,_,[],rfl,Nat.zero_le _,rfl,rfl,rfl,RowIs.nil,K0.out,K1.out,Below.refl _ _⟩
 case round =>
  obtain ⟨k,vv,rr,rfl,hk,rfl,hmod,hrl,hrow,hb0,hb1,hB⟩:=hrel
  have HMOD:=Jh hmod
  have HRL:=Jh hrl
  have HROW:=Jh hrow
  have K0':=Jh hb0
  have K1':=Jh hb1
  have HEX:=Jh hB
  have hszr:=hB.size
  have g7:=hb0.has 7 _ rfl
  clear hmod hrl hrow hb0 hb1 hB
  by_cases hlt:k<l.length
  ·obtain ⟨cs1,he1,hn8,he2⟩:=VE.get (HR.out.mono fun x _ b o h=>EAt.ext' (HEXW.out.trans HEX.out) h) hlt
   obtain rfl:=HA.out (by omega)
   obtain rfl:=HA'.out (by omega)
   have hkw:k<ws.length:=by omega
   have hmem:l[k]∈l:=List.getElem_mem hlt
   have hwk:=HOK.out _ (List.getElem_mem hkw)
   have HWC:=Jh (fun W (hx:Ext w W)=>Is.get (HR'.out.mono fun x _ b o h=>IntAt.ext h hx) hkw)
   have hwk0:ws[k]?.getD 0=ws[k]:=by simp [hkw]
   have hsn:=sizeL_snoc l k ws hlt
   have HSN:=Jh hsn
   have HC:=Jh (fun wd W (hx:Ext wr W)=>IH.out _ hmem wd cs1 W (he2.ext hx))
   have HQ:=Jh (fun W (hx:Ext wr W)=>HOW.out _ hmem cs1 W (he2.ext hx))
   have hxp:=ext_alloc wr (.cells cs1.toArray 64)
   have hbp:=Has.alloc wr cs1 64
   have hsp:wr.heap.size<(wr.alloc (.cells cs1.toArray 64)).heap.size:=by simp
   have HLN:=Jh HRL.out
   have HONE:=Jh he2.one
   clear hsn
   obtain ⟨m,hm⟩:∃ m,ws[k]=m:=⟨_,rfl⟩
   rw [hm] at hwk hwk0 HWC
   have HWK:=Jh hwk0
   clear hm hwk0 he2
   have hbit:=sizeE_bit l[k]
   have HBIT:=Jh hbit
   clear hbit
   go_upto_region 6 with (first | ((with_reducible show Jl 64);refine Jm 64 (he1) agg_E hn8 ?_) | ((with_reducible show Js 64);refine wpList_store_new rfl 64 _ _ rfl rfl (by first | rfl | simp) rfl agg_E (hn8) rfl (HONE.out) ?_))
   generalize wr.alloc _=w2 at *
   have HXP:=Jh hxp
   have HBP:=Jh hbp
   have yw:=HWC.out w2 (HEXW.out.trans (HEX.out.trans HXP.out))
   clear hxp hbp g7 he1
   obtain ⟨q,hq⟩:∃ q,own l[k]=q:=⟨_,rfl⟩
   rw [hq] at HQ HBIT
   clear hq
   obtain ⟨m',hm'⟩:∃ m',(if m = -1 then (1:Int) else m)=m':=⟨_,rfl⟩
   have HMM:=Jh hm'
   have hm0:0<=m':=by rw [<-hm'];split<;>omega
   have hm1:m'<=9223372036854775807:=by rw [<-hm'];split<;>omega
   have HM0:=Jh hm0
   have HM1:=Jh hm1
   have HWKK:=Jh hwk
   clear hm' hwk hm0 hm1
   go_upto_if 29 with fail
   go_cut [9] (fun u wr'=>u=.int .i64 m'/\¬(m = -1/\1<q)/\Ext w2 wr')
   case first =>
    clear yw
    rcases HWKK.out with rfl | hmm
    ·by_cases hq1:1<q
     ·have HERR:=Jh (show underM ⟨op,ew,v,sig,hi,lo,n,l⟩ ws=.error 91 by unfold underM;simp only;rw [sizeL_error l k ws hlt rr HMOD.out 91 (by rw [HWK.out,HBIT.out,if_pos hq1])])
      go_wp2_with (first | ((with_reducible show Jl 64);refine Jm 64 (HBP.out) agg_E hn8 ?_) | (go_at_call 196;refine (HQ.out _ HXP.out).mono ?_;rintro r w3 ⟨rfl,hx3⟩) | ((with_reducible show Js 64);refine wpList_store_blk rfl 64 _ _ rfl (K1'.out.ext (HXP.out.trans hx3)) rfl (cs:=zeroE) rfl agg_E rfl rfl rfl ?_;intro w7 hb7 hg7))
      refine post_ret_blk2 rfl rfl rfl hb7.has agg_E rfl rfl (.inl ⟨91,HERR.out,by omega,rfl,(HEXW.out.trans (HEX.out.trans (HXP.out.trans hx3))).grown hg7 (by omega)⟩)
     ·go_wp2_with (first | ((with_reducible show Jl 64);refine Jm 64 (HBP.out) agg_E hn8 ?_) | (go_at_call 196;refine (HQ.out _ HXP.out).mono ?_;rintro r w3 ⟨rfl,hx3⟩))
      go_meet
      case rel=>exact ⟨by rw [<-HMM.out];rfl,fun h=>by omega,hx3⟩
    ·have g1:m ≠ -1:=by omega
     go_wp2_with fail
     go_meet
     case rel=>exact ⟨by rw [<-HMM.out,if_neg g1],fun h=>g1 h.1,Below.refl _ _⟩
   case rest =>
    obtain ⟨rfl,hno,hB2⟩:=hcut
    have hsame:sizeE l[k] m=sizeE l[k] m':=by
     rw [<-HMM.out]
     by_cases h:m = -1
     ·rw [if_pos h];subst h;rw [HBIT.out,if_neg (fun h=>hno ⟨rfl,h⟩)]
     ·rw [if_neg h]
    have HSM:=Jh hsame
    have HBP2:=Jh (HBP.out.ext hB2)
    have HXP2:=Jh (HXP.out.trans hB2)
    have hs2:=hB2.size
    have HC2:=Jh (HC.out m' wc HXP2.out HM0.out HM1.out)
    clear hno hsame yw hB2 HC HQ HBIT HMM HWKK HBP HXP
    go_wp2_with (first | ((with_reducible show Jl 64);refine Jm 64 (HBP2.out) agg_E hn8 ?_) | (go_at_call 197;refine HC2.out.mono ?_;intro r w3 hp3;obtain ⟨cs2,g,rfl,h8,hone,hx3,ho⟩:=hp3.open;clear hp3;refine Hid.out ?_))
    refine Jh ?_
    have hxb:=ext_alloc w3 (.cells cs2.toArray 64)
    have hbb:=Jh (Has.alloc w3 cs2 64)
    have HXX:=Jh ((HXP2.out.trans hx3).trans hxb)
    have hsz4:w3.heap.size<(w3.alloc (.cells cs2.toArray 64)).heap.size:=by simp
    have hsz3:=hx3.size
    have hszp:=HXP2.out.size
    rcases ho with ⟨rfl,y,hy,hfe⟩ | ⟨hg,hy⟩
    ·have HFE:=Jh (show FV VE wc.heap.size (w3.alloc (.cells cs2.toArray 64)) cs2 y from fun W hW=>(hfe.ext hxb) W (hW.mono (by omega)))
     have HM2:=Jh (show sizeE.sizeL (l.take (k+1)) ws=.ok (rr++[y]) by rw [HSN.out,HMOD.out];simp only [HWK.out,HSM.out,hy])
     clear hfe hy hxb
     go_upto_region 12 with (first | ((with_reducible show Js 64);refine wpList_store_new rfl 64 _ _ rfl rfl (by first | rfl | simp) rfl agg_E (h8) rfl (hone) ?_))
     generalize w3.alloc _=w4 at *
     go_wp2_with (first | ((with_reducible show Jl 64);refine Jm 64 (hbb.out) agg_E h8 ?_) | ((with_reducible show Jw (Op.buildSlice _ _ _));refine wpList_bs1 rfl _ _ rfl appE rfl (cs:=cs2) rfl h8 (by decide) ?_) | ((with_reducible show Jw (Op.call { callee:=.builtin .append,args:=_,argTypes:=_ }));refine wpList_app1 (V:=VE) rfl _ _ _ rfl appE rfl (((HROW.out.since (Since.of_ext HXX.out)).since (Since.of_ext (ext_alloc w4 (.cells cs2.toArray 64))))) rfl h8 (Has.alloc w4 cs2 64) hone ((HFE.out.ext (ext_alloc w4 (.cells cs2.toArray 64))).st (N:=w0.heap.size) (by omega) (fun k hk=>by have:=(HROW.out.lt k hk).2;omega)) (by rw [HLN.out];omega) (by simp;omega) ?_;rw [HLN.out];intro g5 cap5 w5 hrow5 hg5))
     have hx4:=ext_alloc w4 (.cells cs2.toArray 64)
     have hR:∀ j,vv.ownBlock=some j->w0.heap.size<=j:=fun j hj=>(HROW.out.lt j hj).1
     have hb0:=((K0'.out.ext (HXX.out.trans hx4)).grownO hg5 (fun j hj=>by have:=hR j hj;omega))
     have hb1:=((K1'.out.ext (HXX.out.trans hx4)).grownO hg5 (fun j hj=>by have:=hR j hj;omega))
     have hexx:=((HEX.out.trans (HXX.out.trans hx4)).grownO hg5 (fun j hj=>by have:=hR j hj;omega))
     go_roundw
     case rel=>exact ⟨k+1,_,_,rfl,by omega,by go_num,HM2.out,by simp [HRL.out],hrow5,hb0,hb1,hexx⟩
     case measure=>simp [intOf];omega
    ·have g1:(g != 0)=true:=by rw [bne_iff_ne];omega
     have HERR:=Jh (show underM ⟨op,ew,v,sig,hi,lo,n,l⟩ ws=.error g by unfold underM;simp only;rw [sizeL_error l k ws hlt rr HMOD.out g (by rw [HWK.out,HSM.out];exact hy)])
     clear hy hxb
     go_upto_region 12 with (first | ((with_reducible show Js 64);refine wpList_store_new rfl 64 _ _ rfl rfl (by first | rfl | simp) rfl agg_E (h8) rfl (hone) ?_))
     generalize w3.alloc _=w4 at *
     go_wp2_with (first | ((with_reducible show Js 64);refine wpList_store_blk rfl 64 _ _ rfl (K1'.out.ext HXX.out) rfl (cs:=zeroE) rfl agg_E rfl rfl rfl ?_;intro w7 hb7 hg7))
     refine post_ret_blk2 rfl rfl rfl hb7.has agg_E rfl rfl (.inl ⟨g,HERR.out,hg,rfl,(HEXW.out.trans (HEX.out.trans HXX.out)).grown hg7 (by omega)⟩)
  ·obtain rfl:k=l.length:=by omega
   have hfin:=HMOD.out
   rw [List.take_length] at hfin
   have HFIN:=Jh (show underM ⟨op,ew,v,sig,hi,lo,n,l⟩ ws=.ok ⟨op,ew,v,sig,hi,lo,n,rr⟩ by unfold underM;simp only [hfin])
   clear hfin
   obtain ⟨ar,capr,hvv,-⟩:=HROW.out.open
   rw [HRL.out] at hvv
   subst hvv
   go_upto_region 15 with fail
   have hfr:=K0'.out.frozen
   have r7:=hfr 7
   clear hfr
   go_upto_region 16 with fail
   have hb2:Blk _ w.heap.size (E.cells ⟨op,ew,v,sig,hi,lo,n,rr⟩ (.slice ar l.length capr)).toArray 64:=K0'.out.set 7 (.slice ar l.length capr)
   have hg1:=gb_set wr w.heap.size 7 (.slice ar l.length capr)
   have hk1:=K1'.out.grown hg1 (by omega)
   have hro:=HROW.out.since (Since.of_grown hg1 (by omega))
   have hex:=(HEXW.out.trans HEX.out).grown hg1 (Nat.le_refl _)
   clear hg1 r7 g7
   generalize wr.setCell _ _=wy at *
   go_wp2_with (first | ((with_reducible show Jl 64);refine Jm 64 (hb2.has) agg_E rfl ?_) | ((with_reducible show Js 64);refine wpList_store_blk rfl 64 _ _ rfl (hk1) rfl (cs:=E.cells ⟨op,ew,v,sig,hi,lo,n,rr⟩ (.slice ar l.length capr)) rfl agg_E rfl rfl rfl ?_;intro w7 hb7 hg7))
   refine post_ret_blk2 rfl rfl rfl hb7.has agg_E rfl rfl (.inr ⟨_,_,HFIN.out,rfl,fun W hW=>⟨_,rfl,hro.sl (V:=VE) (At:=EAt) (fun _ _ _ _ _ h hv=>VE.at h hv) ((Since.of_grown hg7 (by omega)).trans (hW.mono (by omega)))⟩,hex.grown hg7 (by omega)⟩)
theorem SizePost.again {w w3 w' w'':World} {o:Except Int E} {r:Ending} (h:SizePost w3 o r w') (hx:Ext w w3) (hx2:Ext w w'') (hs:Since w3.heap.size w' w''):SizePost w o r w'':=by
 rcases h with ⟨g,h1,h2,h3,h4⟩ | ⟨y,cs,h1,h2,h3,h4⟩
 ·exact .inl ⟨g,h1,h2,h3,hx2⟩
 ·exact .inr ⟨y,cs,h1,h2,(h3.since hs).mono hx.size,hx2⟩
theorem flat_ones (l:List Value):(l.map fun v=>[v]).flatten=l:=by
 induction l with
 | nil=>rfl
 | cons x l ih=>simp [ih]
theorem wpList_ints {P:Program} {ops:Array Oper} {rest:List Oper} {o:Oper} {a:Act} {w:World} {Q:Exit->Act->World->Prop} (hw:Region.wanted o (yielded ops a.tmps)=true) (t:TypeId) (n:Nat) (ps:Array (Nat × Operand))
  (ho:o.op=.buildSlice t n ps) {e:TypeId} (hT:AppT P t e 1 8) (l:List Int) (hx:ps.toList.map (fun p=>(p.1,a.eval p.2))=((ints l).zipIdx 0).map fun x=>(x.2,x.1)) (hn:l.length=n) (h0:0<n) (hm:n*1<=16777216)
  (h:wpList P ops Q rest (a.put o.dst (.slice (some ⟨w.heap.size,0,none⟩) n n)) (w.alloc (.cells (ints l).toArray e))):wpList P ops Q (o::rest) a w:=by
 refine wpList_bsN hw t n ps ho hT (vs:=ints l) hx (by simpa using hn) (css:=(ints l).map fun v=>[v]) (by simp [ints,Value.cells]) (by intro cs hc;obtain ⟨v,-,rfl⟩:=List.mem_map.1 hc;rfl) h0 hm ?_
 rw [flat_ones];exact h
def UnderSaid (w0:World) (x:E) (cs:List Value):Prop:=∀ (ws:List Int) (s':Value) (W:World),Ext w0 W->Is W s' ws->x.l.length<=ws.length->(∀ v∈ws,v = -1\/0<=v/\v<=9223372036854775807) ->
 Calls Tryz.prog 243 #[.agg cs.toArray,s'] W (SizePost W (underM x ws))
theorem unary_callsR (x:E) (ih:∀ y∈x.l,SizedRSaid y) (how:∀ y∈x.l,OwnRSaid y) (hl:x.l.length=1) (wd:Int) (hw0:0<=wd) (hw1:wd<=9223372036854775807) (cs:List Value) (w:World) (hV:VE w cs x) :
  Calls Tryz.prog 244 #[.agg cs.toArray,.int .i64 wd] w (SizePost w (unaryM x wd)):=by
 obtain ⟨op,ew,v,sig,hi,lo,n,l⟩:=x
 obtain ⟨s,rfl,hs⟩:=hV
 have HX:=(ext_alloc w (.cells (E.cells ⟨op,ew,v,sig,hi,lo,n,l⟩ s).toArray 64)).alloc (.cells zeroE.toArray 64)
 have HB0:=(Has.alloc w (E.cells ⟨op,ew,v,sig,hi,lo,n,l⟩ s) 64).ext (ext_alloc _ (.cells zeroE.toArray 64))
 have HB1:=Blk.new (w.alloc (.cells (E.cells ⟨op,ew,v,sig,hi,lo,n,l⟩ s).toArray 64)) zeroE.toArray 64
 simp only [World.size_alloc] at HB1
 have hu:=fun W (hx:Ext w W)=>(show UnderSaid W ⟨op,ew,v,sig,hi,lo,n,l⟩ (E.cells ⟨op,ew,v,sig,hi,lo,n,l⟩ s) from fun ws s' W' hx' hI h1 h2=>under_callsR ⟨op,ew,v,sig,hi,lo,n,l⟩ ih how (by omega) ws h1 h2 _ s' W' ⟨s,rfl,hs.ext (hx.trans hx')⟩ hI)
 simp only at hl
 have HL:=Jh hl
 clear hs ih how hl
 have HM0:=Jh (show unaryM ⟨op,ew,v,sig,hi,lo,n,l⟩ wd=_ from by unfold unaryM;rfl)
 go_enter Tryz.func244,Tryz.ntmps244
 go_upto_region 1 with (fail)
 generalize (w.alloc _).alloc _=w0 at *
 have HB:=Jh HB0
 have K1:=Jh HB1
 have hlt0:w.heap.size+1<w0.heap.size:=HB1.lt
 have HU:=Jh (hu w0 HX)
 replace HX:=Jh HX
 have HE0:=Jh (Below.refl w0.heap.size w0)
 have g6:=HB0 6 _ rfl
 clear HB0 HB1 hu
 by_cases h2:n<=2
 ·have HM:=Jh (show unaryM ⟨op,ew,v,sig,hi,lo,n,l⟩ wd=underM ⟨op,ew,v,sig,hi,lo,n,l⟩ [wd] by rw [HM0.out];(try simp only);rw [if_pos h2])
  go_wp2_with (first | ((with_reducible show Jl 64);refine Jm 64 (HB.out) agg_E rfl ?_) | ((with_reducible show Jw (Op.buildSlice _ _ _));refine wpList_ints rfl _ 1 _ rfl appInt [wd] rfl rfl (by decide) (by decide) ?_) | (go_at_call 243;refine (HU.out [wd] _ _ (HE0.out.trans (ext_alloc w0 _)) (Blk.ints (Blk.new w0 (ints [wd]).toArray 3) 1 (Nat.le_refl _) (by simp only [maxLen];decide)) (by simp [HL.out]) (by intro v hv;simp at hv;omega)).mono ?_;intro r w3 hp3;obtain ⟨cs2,g,rfl,h8,hone,hx3,-⟩:=hp3.open;have HP3:=Jh hp3;clear hp3) | ((with_reducible show Js 64);refine wpList_store_blk rfl 64 _ _ rfl ((K1.out.ext (ext_alloc w0 _)).ext hx3) rfl (cs:=cs2) rfl agg_E h8 rfl hone ?_;intro w7 hb7 hg7))
  have hsx:=hx3.size
  have hsy:w0.heap.size<(w0.alloc (.cells (ints [wd]).toArray 3)).heap.size:=by simp
  refine post_ret_blk2 rfl rfl rfl hb7.has agg_E h8 rfl ?_
  rw [HM.out]
  exact HP3.out.again (HX.out.trans (ext_alloc w0 _)) ((HX.out.trans ((ext_alloc w0 _).trans hx3)).grown hg7 (by omega)) (Since.of_grown hg7 (by omega))
 by_cases hw:wd=1
 ·obtain rfl:=hw
  have b1:((1:Int) != 1)=false:=rfl
  by_cases h6:n=6
  ·have HM:=Jh (show unaryM ⟨op,ew,v,sig,hi,lo,n,l⟩ 1=underM ⟨op,ew,v,sig,hi,lo,n,l⟩ [-1] by rw [HM0.out];simp [h6])
   have b6:(n==6)=true:=by rw [beq_iff_eq];exact h6
   clear h6
   go_wp2_with (first | ((with_reducible show Jl 64);refine Jm 64 (HB.out) agg_E rfl ?_) | ((with_reducible show Jw (Op.buildSlice _ _ _));refine wpList_ints rfl _ 1 _ rfl appInt [-1] rfl rfl (by decide) (by decide) ?_) | (go_at_call 243;refine (HU.out [-1] _ _ (HE0.out.trans (ext_alloc w0 _)) (Blk.ints (Blk.new w0 (ints [-1]).toArray 3) 1 (Nat.le_refl _) (by simp only [maxLen];decide)) (by simp [HL.out]) (by intro v hv;simp at hv;omega)).mono ?_;intro r w3 hp3;obtain ⟨cs2,g,rfl,h8,hone,hx3,-⟩:=hp3.open;have HP3:=Jh hp3;clear hp3) | ((with_reducible show Js 64);refine wpList_store_blk rfl 64 _ _ rfl ((K1.out.ext (ext_alloc w0 _)).ext hx3) rfl (cs:=cs2) rfl agg_E h8 rfl hone ?_;intro w7 hb7 hg7))
   have hsx:=hx3.size
   have hsy:w0.heap.size<(w0.alloc (.cells (ints [-1]).toArray 3)).heap.size:=by simp
   refine post_ret_blk2 rfl rfl rfl hb7.has agg_E h8 rfl ?_
   rw [HM.out]
   exact HP3.out.again (HX.out.trans (ext_alloc w0 _)) ((HX.out.trans ((ext_alloc w0 _).trans hx3)).grown hg7 (by omega)) (Since.of_grown hg7 (by omega))
  ·have HM:=Jh (show unaryM ⟨op,ew,v,sig,hi,lo,n,l⟩ 1=underM ⟨op,ew,v,sig,hi,lo,n,l⟩ [0] by rw [HM0.out];simp [h2,h6])
   have b6:(n==6)=false:=by rw [beq_eq_false_iff_ne];exact h6
   clear h6
   go_wp2_with (first | ((with_reducible show Jl 64);refine Jm 64 (HB.out) agg_E rfl ?_) | ((with_reducible show Jw (Op.buildSlice _ _ _));refine wpList_ints rfl _ 1 _ rfl appInt [0] rfl rfl (by decide) (by decide) ?_) | (go_at_call 243;refine (HU.out [0] _ _ (HE0.out.trans (ext_alloc w0 _)) (Blk.ints (Blk.new w0 (ints [0]).toArray 3) 1 (Nat.le_refl _) (by simp only [maxLen];decide)) (by simp [HL.out]) (by intro v hv;simp at hv;omega)).mono ?_;intro r w3 hp3;obtain ⟨cs2,g,rfl,h8,hone,hx3,-⟩:=hp3.open;have HP3:=Jh hp3;clear hp3) | ((with_reducible show Js 64);refine wpList_store_blk rfl 64 _ _ rfl ((K1.out.ext (ext_alloc w0 _)).ext hx3) rfl (cs:=cs2) rfl agg_E h8 rfl hone ?_;intro w7 hb7 hg7))
   have hsx:=hx3.size
   have hsy:w0.heap.size<(w0.alloc (.cells (ints [0]).toArray 3)).heap.size:=by simp
   refine post_ret_blk2 rfl rfl rfl hb7.has agg_E h8 rfl ?_
   rw [HM.out]
   exact HP3.out.again (HX.out.trans (ext_alloc w0 _)) ((HX.out.trans ((ext_alloc w0 _).trans hx3)).grown hg7 (by omega)) (Since.of_grown hg7 (by omega))
 ·have HM:=Jh (show unaryM ⟨op,ew,v,sig,hi,lo,n,l⟩ wd=.error 90 by rw [HM0.out];simp [h2,hw])
  have b1:(wd != 1)=true:=by rw [bne_iff_ne];exact hw
  clear hw
  go_wp2_with (first | ((with_reducible show Js 64);refine wpList_store_blk rfl 64 _ _ rfl (K1.out) rfl (cs:=zeroE) rfl agg_E rfl rfl rfl ?_;intro w7 hb7 hg7))
  refine post_ret_blk2 rfl rfl rfl hb7.has agg_E rfl rfl (.inl ⟨90,HM.out,by omega,rfl,HX.out.grown hg7 (by omega)⟩)
theorem binary_callsR (x:E) (ih:∀ y∈x.l,SizedRSaid y) (how:∀ y∈x.l,OwnRSaid y) (hl:x.l.length=2) (hown:0<=own.fst x.l/\own.fst x.l<=9223372036854775807) (wd:Int) (hw0:0<=wd) (hw1:wd<=9223372036854775807) (cs:List Value) (w:World) (hV:VE w cs x) :
  Calls Tryz.prog 245 #[.agg cs.toArray,.int .i64 wd] w (SizePost w (binaryM x wd)):=by
 obtain ⟨op,ew,v,sig,hi,lo,n,l⟩:=x
 simp only at hl
 obtain ⟨x,y,rfl⟩:=len2 hl
 obtain ⟨s,rfl,hs⟩:=hV
 obtain ⟨a,b,o,cap,rfl,hc1,hc2,ha,hr⟩:=hs.open
 obtain rfl:=ha (by simp)
 have hox:=how x (by simp)
 have hoy:=how y (by simp)
 have HX:=(ext_alloc w (.cells (E.cells ⟨op,ew,v,sig,hi,lo,n,[x,y]⟩ (.slice (some ⟨b,o,Option.none⟩) 2 cap)).toArray 64)).alloc (.cells zeroE.toArray 64)
 have HB0:=(Has.alloc w (E.cells ⟨op,ew,v,sig,hi,lo,n,[x,y]⟩ (.slice (some ⟨b,o,Option.none⟩) 2 cap)) 64).ext (ext_alloc _ (.cells zeroE.toArray 64))
 have HB1:=Blk.new (w.alloc (.cells (E.cells ⟨op,ew,v,sig,hi,lo,n,[x,y]⟩ (.slice (some ⟨b,o,Option.none⟩) 2 cap)).toArray 64)) zeroE.toArray 64
 simp only [World.size_alloc] at HB1
 have hu:=fun W (hx:Ext w W)=>(show UnderSaid W ⟨op,ew,v,sig,hi,lo,n,[x,y]⟩ (E.cells ⟨op,ew,v,sig,hi,lo,n,[x,y]⟩ (.slice (some ⟨b,o,Option.none⟩) 2 cap)) from fun ws s' W' hx' hI h1 h2=>under_callsR ⟨op,ew,v,sig,hi,lo,n,[x,y]⟩ ih how (by simp) ws h1 h2 _ s' W' ⟨_,rfl,hs.ext (hx.trans hx')⟩ hI)
 obtain ⟨s',q1,q2⟩:=Es.get (hr.mono fun x _ b o h=>EAt.ext' (Below.refl _ _) h) (k:=0) (by simp)
 obtain ⟨s2,q3,q4⟩:=Es.get (hr.mono fun x _ b o h=>EAt.ext' (Below.refl _ _) h) (k:=1) (by simp)
 simp only [Jb,Jc,Nat.zero_mul,Nat.add_zero,Nat.one_mul,List.length_cons,List.length_nil,Nat.zero_add] at q1 q2 q3 q4 hc1 hown
 have hc:=fun W (hx':Ext w W)=>either_callsR x y hox hoy _ _ W (⟨s',rfl,q2.ext hx'⟩) (⟨s2,rfl,q4.ext hx'⟩)
 have hfst:own.fst [x,y]=(if own x=0 then own y else own x):=by simp [own.fst];split<;>simp_all
 obtain ⟨t,ht⟩:∃ t,own.fst [x,y]=t:=⟨_,rfl⟩
 rw [<-hfst,ht] at hc
 rw [ht] at hown
 have HM0:=Jh (show binaryM ⟨op,ew,v,sig,hi,lo,n,[x,y]⟩ wd=_ from by unfold binaryM;simp only [ht];rfl)
 clear hs ih how hl ha hr hox hoy hfst ht
 go_enter Tryz.func245,Tryz.ntmps245
 go_upto_region 1 with (fail)
 generalize (w.alloc _).alloc _=w0 at *
 have HB:=Jh HB0
 have K1:=Jh HB1
 have hlt0:w.heap.size+1<w0.heap.size:=HB1.lt
 have HU:=Jh (hu w0 HX)
 replace HX:=Jh HX
 have HE0:=Jh (Below.refl w0.heap.size w0)
 have g6:=HB0 6 _ rfl
 have HX0:=Jh (q1.ext HX.out)
 have HY0:=Jh (q3.ext HX.out)
 have HC:=Jh (fun W (hx':Ext w0 W)=>hc W (HX.out.trans hx'))
 clear HB0 HB1 hu q1 q2 q3 q4 hc
 by_cases h2:n<=16
 ·have HM:=Jh (show binaryM ⟨op,ew,v,sig,hi,lo,n,[x,y]⟩ wd=underM ⟨op,ew,v,sig,hi,lo,n,[x,y]⟩ [wd,wd] by rw [HM0.out];(try simp only);rw [if_pos h2])
  go_wp2_with (first | ((with_reducible show Jl 64);refine Jm 64 (HB.out) agg_E rfl ?_) | ((with_reducible show Jw (Op.buildSlice _ _ _));refine wpList_ints rfl _ 2 _ rfl appInt [wd,wd] rfl rfl (by decide) (by decide) ?_) | (go_at_call 243;refine (HU.out [wd,wd] _ _ (HE0.out.trans (ext_alloc w0 _)) (Blk.ints (Blk.new w0 (ints [wd,wd]).toArray 3) 2 (Nat.le_refl _) (by simp only [maxLen];decide)) (by simp) (by intro v hv;simp at hv;omega)).mono ?_;intro r w3 hp3;obtain ⟨cs2,g,rfl,h8,hone,hx3,-⟩:=hp3.open;have HP3:=Jh hp3;clear hp3) | ((with_reducible show Js 64);refine wpList_store_blk rfl 64 _ _ rfl ((K1.out.ext (ext_alloc w0 _)).ext hx3) rfl (cs:=cs2) rfl agg_E h8 rfl hone ?_;intro w7 hb7 hg7))
  have hsx:=hx3.size
  have hsy:w0.heap.size<(w0.alloc (.cells (ints [wd,wd]).toArray 3)).heap.size:=by simp
  refine post_ret_blk2 rfl rfl rfl hb7.has agg_E h8 rfl ?_
  rw [HM.out]
  exact HP3.out.again (HX.out.trans (ext_alloc w0 _)) ((HX.out.trans ((ext_alloc w0 _).trans hx3)).grown hg7 (by omega)) (Since.of_grown hg7 (by omega))
 by_cases h3:n<=18
 ·have HM:=Jh (show binaryM ⟨op,ew,v,sig,hi,lo,n,[x,y]⟩ wd=underM ⟨op,ew,v,sig,hi,lo,n,[x,y]⟩ [wd,0] by rw [HM0.out];(try simp only);rw [if_neg h2,if_pos h3])
  go_wp2_with (first | ((with_reducible show Jl 64);refine Jm 64 (HB.out) agg_E rfl ?_) | ((with_reducible show Jw (Op.buildSlice _ _ _));refine wpList_ints rfl _ 2 _ rfl appInt [wd,0] rfl rfl (by decide) (by decide) ?_) | (go_at_call 243;refine (HU.out [wd,0] _ _ (HE0.out.trans (ext_alloc w0 _)) (Blk.ints (Blk.new w0 (ints [wd,0]).toArray 3) 2 (Nat.le_refl _) (by simp only [maxLen];decide)) (by simp) (by intro v hv;simp at hv;omega)).mono ?_;intro r w3 hp3;obtain ⟨cs2,g,rfl,h8,hone,hx3,-⟩:=hp3.open;have HP3:=Jh hp3;clear hp3) | ((with_reducible show Js 64);refine wpList_store_blk rfl 64 _ _ rfl ((K1.out.ext (ext_alloc w0 _)).ext hx3) rfl (cs:=cs2) rfl agg_E h8 rfl hone ?_;intro w7 hb7 hg7))
  have hsx:=hx3.size
  have hsy:w0.heap.size<(w0.alloc (.cells (ints [wd,0]).toArray 3)).heap.size:=by simp
  refine post_ret_blk2 rfl rfl rfl hb7.has agg_E h8 rfl ?_
  rw [HM.out]
  exact HP3.out.again (HX.out.trans (ext_alloc w0 _)) ((HX.out.trans ((ext_alloc w0 _).trans hx3)).grown hg7 (by omega)) (Since.of_grown hg7 (by omega))
 by_cases hw:wd=1
 ·obtain rfl:=hw
  have b1:((1:Int) != 1)=false:=rfl
  by_cases h6:25<=n
  ·have HM:=Jh (show binaryM ⟨op,ew,v,sig,hi,lo,n,[x,y]⟩ 1=underM ⟨op,ew,v,sig,hi,lo,n,[x,y]⟩ [-1,-1] by rw [HM0.out];(try simp only);rw [if_neg h2,if_neg h3,if_neg (by decide),if_pos h6])
   go_wp2_with (first | ((with_reducible show Jl 64);refine Jm 64 (HB.out) agg_E rfl ?_) | ((with_reducible show Jw (Op.buildSlice _ _ _));refine wpList_ints rfl _ 2 _ rfl appInt [-1,-1] rfl rfl (by decide) (by decide) ?_) | (go_at_call 243;refine (HU.out [-1,-1] _ _ (HE0.out.trans (ext_alloc w0 _)) (Blk.ints (Blk.new w0 (ints [-1,-1]).toArray 3) 2 (Nat.le_refl _) (by simp only [maxLen];decide)) (by simp) (by intro v hv;simp at hv;omega)).mono ?_;intro r w3 hp3;obtain ⟨cs2,g,rfl,h8,hone,hx3,-⟩:=hp3.open;have HP3:=Jh hp3;clear hp3) | ((with_reducible show Js 64);refine wpList_store_blk rfl 64 _ _ rfl ((K1.out.ext (ext_alloc w0 _)).ext hx3) rfl (cs:=cs2) rfl agg_E h8 rfl hone ?_;intro w7 hb7 hg7))
   have hsx:=hx3.size
   have hsy:w0.heap.size<(w0.alloc (.cells (ints [-1,-1]).toArray 3)).heap.size:=by simp
   refine post_ret_blk2 rfl rfl rfl hb7.has agg_E h8 rfl ?_
   rw [HM.out]
   exact HP3.out.again (HX.out.trans (ext_alloc w0 _)) ((HX.out.trans ((ext_alloc w0 _).trans hx3)).grown hg7 (by omega)) (Since.of_grown hg7 (by omega))
  ·have hm:binaryM ⟨op,ew,v,sig,hi,lo,n,[x,y]⟩ 1=underM ⟨op,ew,v,sig,hi,lo,n,[x,y]⟩ [told t 32,told t 32]:=by rw [HM0.out];(try simp only);rw [if_neg h2,if_neg h3,if_neg (by decide),if_neg h6]
   have HM:=Jh hm
   clear hm
   go_upto_region 9 with fail
   refine Jg w0 fun hH=>?_
   try simp only [J]
   (refine Jt 0 (_) rfl (yif_load1 rfl (by intro W hW;clear hW;go_simp;rfl)) hH ?_;try simp only [J])
   (refine Jt 1 (.slice (some ⟨b,o,Option.none⟩) 2 cap) rfl (yif_load1 rfl (by intro W hW;have y7:=(HB.out.ext hW) 7 _ rfl;clear hW;go_simp)) hH ?_;try simp only [J])
   (refine Jt 2 (.pointer (some ⟨b,o,Option.none⟩)) rfl (yif_load1 rfl (by intro W hW;clear hW;go_simp)) hH ?_;try simp only [J])
   (refine Jt 3 (.agg (x.cells s').toArray) rfl (yif_load rfl 64 _ rfl rfl (fun W hW=>HX0.out.ext hW) agg_E rfl) hH ?_;try simp only [J])
   (refine Jt 4 (_) rfl (yif_load1 rfl (by intro W hW;clear hW;go_simp;rfl)) hH ?_;try simp only [J])
   (refine Jt 5 (.slice (some ⟨b,o,Option.none⟩) 2 cap) rfl (yif_load1 rfl (by intro W hW;have y7:=(HB.out.ext hW) 7 _ rfl;clear hW;go_simp)) hH ?_;try simp only [J])
   (refine Jt 6 (.pointer (some ⟨b,o+8,Option.none⟩)) rfl (yif_load1 rfl (by intro W hW;clear hW;go_simp)) hH ?_;try simp only [J])
   (refine Jt 7 (.agg (y.cells s2).toArray) rfl (yif_load rfl 64 _ rfl rfl (fun W hW=>HY0.out.ext hW) agg_E rfl) hH ?_;try simp only [J])
   refine Jr 8 rfl fun K hK=>?_
   go_simp
   refine (HC.out _ hH).mono ?_
   rintro r w1 ⟨rfl,hx1⟩
   refine hK.out _ _ (hH.trans hx1) (fun hH=>?_)
   clear hK K
   try simp only [J]
   (refine Jt 9 (_) rfl (yif_load1 rfl fun _ _=>rfl) hH ?_;try simp only [J])
   refine Jz ?_
   have HE1:=Jh hH
   have hsw1:=hH.size
   have HB2:=Jh (HB.out.ext hH)
   have K2:=Jh (K1.out.ext hH)
   clear hH hx1
   by_cases h0:t=0
   ·have b0:(t==0)=true:=by rw [beq_iff_eq];exact h0
    have hm:=HM.out
    rw [show told t 32=32 by simp [told,h0]] at hm
    replace HM:=Jh hm
    clear hm h0
    go_wp2_with (first | ((with_reducible show Jl 64);refine Jm 64 (HB2.out) agg_E rfl ?_) | ((with_reducible show Jw (Op.buildSlice _ _ _));refine wpList_ints rfl _ 2 _ rfl appInt [32,32] rfl rfl (by decide) (by decide) ?_) | (go_at_call 243;refine (HU.out [32,32] _ _ (HE1.out.trans (ext_alloc w1 _)) (Blk.ints (Blk.new w1 (ints [32,32]).toArray 3) 2 (Nat.le_refl _) (by simp only [maxLen];decide)) (by simp) (by intro v hv;simp at hv;omega)).mono ?_;intro r w3 hp3;obtain ⟨cs2,g,rfl,h8,hone,hx3,-⟩:=hp3.open;have HP3:=Jh hp3;clear hp3) | ((with_reducible show Js 64);refine wpList_store_blk rfl 64 _ _ rfl ((K2.out.ext (ext_alloc w1 _)).ext hx3) rfl (cs:=cs2) rfl agg_E h8 rfl hone ?_;intro w7 hb7 hg7))
    have hsx:=hx3.size
    have hsy:w1.heap.size<(w1.alloc (.cells (ints [32,32]).toArray 3)).heap.size:=by simp
    refine post_ret_blk2 rfl rfl rfl hb7.has agg_E h8 rfl ?_
    rw [HM.out]
    exact HP3.out.again (HX.out.trans (HE1.out.trans (ext_alloc w1 _))) ((HX.out.trans (HE1.out.trans ((ext_alloc w1 _).trans hx3))).grown hg7 (by omega)) (Since.of_grown hg7 (by omega))
   ·have b0:(t==0)=false:=by rw [beq_eq_false_iff_ne];exact h0
    have hm:=HM.out
    rw [show told t 32=t by simp [told,h0]] at hm
    replace HM:=Jh hm
    clear hm h0
    go_wp2_with (first | ((with_reducible show Jl 64);refine Jm 64 (HB2.out) agg_E rfl ?_) | ((with_reducible show Jw (Op.buildSlice _ _ _));refine wpList_ints rfl _ 2 _ rfl appInt [t,t] rfl rfl (by decide) (by decide) ?_) | (go_at_call 243;refine (HU.out [t,t] _ _ (HE1.out.trans (ext_alloc w1 _)) (Blk.ints (Blk.new w1 (ints [t,t]).toArray 3) 2 (Nat.le_refl _) (by simp only [maxLen];decide)) (by simp) (by intro v hv;simp at hv;omega)).mono ?_;intro r w3 hp3;obtain ⟨cs2,g,rfl,h8,hone,hx3,-⟩:=hp3.open;have HP3:=Jh hp3;clear hp3) | ((with_reducible show Js 64);refine wpList_store_blk rfl 64 _ _ rfl ((K2.out.ext (ext_alloc w1 _)).ext hx3) rfl (cs:=cs2) rfl agg_E h8 rfl hone ?_;intro w7 hb7 hg7))
    have hsx:=hx3.size
    have hsy:w1.heap.size<(w1.alloc (.cells (ints [t,t]).toArray 3)).heap.size:=by simp
    refine post_ret_blk2 rfl rfl rfl hb7.has agg_E h8 rfl ?_
    rw [HM.out]
    exact HP3.out.again (HX.out.trans (HE1.out.trans (ext_alloc w1 _))) ((HX.out.trans (HE1.out.trans ((ext_alloc w1 _).trans hx3))).grown hg7 (by omega)) (Since.of_grown hg7 (by omega))
 ·have HM:=Jh (show binaryM ⟨op,ew,v,sig,hi,lo,n,[x,y]⟩ wd=.error 90 by rw [HM0.out];(try simp only);rw [if_neg h2,if_neg h3,if_pos hw])
  have b1:(wd != 1)=true:=by rw [bne_iff_ne];exact hw
  clear hw
  go_wp2_with (first | ((with_reducible show Js 64);refine wpList_store_blk rfl 64 _ _ rfl (K1.out) rfl (cs:=zeroE) rfl agg_E rfl rfl rfl ?_;intro w7 hb7 hg7))
  refine post_ret_blk2 rfl rfl rfl hb7.has agg_E rfl rfl (.inl ⟨90,HM.out,by omega,rfl,HX.out.grown hg7 (by omega)⟩)
end Go.Proofs.YtaipaccpaljecaaGreat
