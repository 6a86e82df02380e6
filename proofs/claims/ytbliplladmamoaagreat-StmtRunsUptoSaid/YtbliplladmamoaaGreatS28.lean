/- Laws and walks that a claim of this seat leans on: Ref9, Ref10, Ref11, Ref12. -/
import Derived.Test.YtbliplladmamoaaGreatS27
import Derived.Test.YtbliplladmamoaaGreatS05
import Derived.Test.YtbliplladmamoaaGreatS00
set_option maxRecDepth 100000
set_option maxHeartbeats 8000000
set_option linter.all false
namespace Go.Proofs.YtbliplladmamoaaGreat
open Go.RowKit
theorem Ahc {x y:E} (h:¬ x=y):eqE x y=false:=by
 cases e:eqE x y
 ·rfl
 ·exact absurd ((Kq x y).1 e) h
theorem Ra {x y:E} (h:x=y):eqE x y=true:=(Kq x y).2 h
theorem N7 (l r:List T):Bg eqT l r=true↔l=r:=G0 eqT l r (fun x _ y=>Aa6 x y)
theorem Aa2 {l r:List T} (h:¬ l=r):Bg eqT l r=false:=by
 cases e:Bg eqT l r
 ·rfl
 ·exact absurd ((N7 l r).1 e) h
theorem V3 {α:Type} {l r:List α} {k:Nat} (h:l.take k=r.take k) (hk:k<l.length) (j:k<r.length) (e:l[k]=r[k]):l.take (k+1)=r.take (k+1):=by
 rw [Ba l k hk,Ba r k j,h,e]
def Zj (x:E):Prop:=∀ (y:E) (cs cs':List Value) (w:World),VE w cs x->VE w cs' y ->
  Calls Tryz.prog 108 #[.agg cs.toArray,.agg cs'.toArray] w fun r w'=>r=.returned (.bool (eqE x y))/\Ext w w'
theorem Xh (x:E) (ih:∀ z∈x.l,Zj z):Zj x:=by
 intro y cs bp w h h'
 have IH:=Jh ih
 clear ih
 have aa:=Jh (fun (h:¬ x=y)=>Ahc h)
 have bd:=Jh (fun (h:x=y)=>Ra h)
 obtain ⟨op,ew,v,sig,hi,lo,n,l⟩:=x
 obtain ⟨al,ai,v',ae,aj,ak,n',l'⟩:=y
 obtain ⟨s,rfl,hs⟩:=h
 obtain ⟨s',rfl,ba⟩:=h'
 obtain ⟨a,b,o,cap,rfl,bf,bq,ha,hr⟩:=hs.open
 obtain ⟨a',b',o',ag,rfl,a5,bj,aw,ay⟩:=ba.open
 simp only at bf a5 ha aw hr ay IH
 have HR:=Jh hr
 have be:=Jh ay
 have HA:=Jh ha
 have bb:=Jh aw
 clear hr ay ha aw hs ba
 have a4:=Ab w (.cells (E.cells ⟨op,ew,v,sig,hi,lo,n,l⟩ (.slice a l.length cap)).toArray 40)
 have av:=Ab (w.alloc (.cells (E.cells ⟨op,ew,v,sig,hi,lo,n,l⟩ (.slice a l.length cap)).toArray 40)) (.cells (E.cells ⟨al,ai,v',ae,aj,ak,n',l'⟩ (.slice a' l'.length ag)).toArray 40)
 have u:=(Has.alloc w (E.cells ⟨op,ew,v,sig,hi,lo,n,l⟩ (.slice a l.length cap)) 40).ext av
 have j:=Has.alloc (w.alloc (.cells (E.cells ⟨op,ew,v,sig,hi,lo,n,l⟩ (.slice a l.length cap)).toArray 40)) (E.cells ⟨al,ai,v',ae,aj,ak,n',l'⟩ (.slice a' l'.length ag)) 40
 rw [World.size_alloc] at j
 have hX:=a4.trans av
 clear a4 av
 go_enter Tryz.func108,Tryz.ntmps108
 go_upto_region 1 with fail
 generalize (w.alloc _).alloc _=w0 at *
 have az:=Jh u
 have bc:=Jh j
 have HX:=Jh hX
 have f0:=u 0 _ rfl
 have g0:=j 0 _ rfl
 have f1:=u 1 _ rfl
 have g1:=j 1 _ rfl
 have f2:=u 2 _ rfl
 have g2:=j 2 _ rfl
 have f3:=u 3 _ rfl
 have g3:=j 3 _ rfl
 have f4:=u 4 _ rfl
 have g4:=j 4 _ rfl
 have f5:=u 5 _ rfl
 have g5:=j 5 _ rfl
 have f6:=u 6 _ rfl
 have g6:=j 6 _ rfl
 have f7:=u 7 _ rfl
 have g7:=j 7 _ rfl
 clear u j hX
 by_cases ap:op=al
 rotate_left
 ·have bo:(op != al)=true:=by rw [bne_iff_ne];exact ap
  have HF:=Jh (aa.out (fun h=>by injection h with h1 h2 h3 h4 h5 h6 h7 h8;exact ap (by assumption)))
  clear ap
  go_wp2_with fail
  go_ret
  exact ⟨Af HF.out.symm,HX.out⟩
 subst ap
 by_cases am:ew=ai
 rotate_left
 ·have bk:(ew != ai)=true:=by rw [bne_iff_ne];exact am
  have HF:=Jh (aa.out (fun h=>by injection h with h1 h2 h3 h4 h5 h6 h7 h8;exact am (by assumption)))
  clear am
  go_wp2_with fail
  go_ret
  exact ⟨Af HF.out.symm,HX.out⟩
 subst am
 by_cases qv:v=v'
 rotate_left
 ·have cv:(v != v')=true:=by rw [bne_iff_ne];exact qv
  have HF:=Jh (aa.out (fun h=>by injection h with h1 h2 h3 h4 h5 h6 h7 h8;exact qv (by assumption)))
  clear qv
  go_wp2_with fail
  go_ret
  exact ⟨Af HF.out.symm,HX.out⟩
 subst qv
 by_cases ac:sig=ae
 rotate_left
 ·have bi:(sig != ae)=true:=by rw [bne_iff_ne];exact ac
  have HF:=Jh (aa.out (fun h=>by injection h with h1 h2 h3 h4 h5 h6 h7 h8;exact ac (by assumption)))
  clear ac
  go_wp2_with fail
  go_ret
  exact ⟨Af HF.out.symm,HX.out⟩
 subst ac
 by_cases an:hi=aj
 rotate_left
 ·have bl:(hi != aj)=true:=by rw [bne_iff_ne];exact an
  have HF:=Jh (aa.out (fun h=>by injection h with h1 h2 h3 h4 h5 h6 h7 h8;exact an (by assumption)))
  clear an
  go_wp2_with fail
  go_ret
  exact ⟨Af HF.out.symm,HX.out⟩
 subst an
 by_cases ao:lo=ak
 rotate_left
 ·have bm:(lo != ak)=true:=by rw [bne_iff_ne];exact ao
  have HF:=Jh (aa.out (fun h=>by injection h with h1 h2 h3 h4 h5 h6 h7 h8;exact ao (by assumption)))
  clear ao
  go_wp2_with fail
  go_ret
  exact ⟨Af HF.out.symm,HX.out⟩
 subst ao
 by_cases qn:n=n'
 rotate_left
 ·have cn:(n != n')=true:=by rw [bne_iff_ne];exact qn
  have HF:=Jh (aa.out (fun h=>by injection h with h1 h2 h3 h4 h5 h6 h7 h8;exact qn (by assumption)))
  clear qn
  go_wp2_with fail
  go_ret
  exact ⟨Af HF.out.symm,HX.out⟩
 subst qn
 by_cases ql:l.length=l'.length
 rotate_left
 ·have cl:(((l.length:Nat):Int) != ((l'.length:Nat):Int))=true:=by rw [bne_iff_ne];omega
  have HF:=Jh (aa.out (fun h=>by injection h with h1 h2 h3 h4 h5 h6 h7 h8;exact ql (by rw [h8])))
  clear ql
  go_wp2_with fail
  go_ret
  exact ⟨Af HF.out.symm,HX.out⟩
 have cl:(((l.length:Nat):Int) != ((l'.length:Nat):Int))=false:=by rw [bne_eq_false_iff_eq];omega
 have QL:=Jh ql
 clear ql
 go_upto_region 3 with fail
 clear cl f0 g0 f1 g1 f2 g2 f3 g3 f4 g4 f5 g5 f6 g6 f7 g7
 go_wp2_with fail
 go_loopw [5] (fun i wr=>∃ k:Nat,k<=l.length/\i=.int .i64 k/\l.take k=l'.take k/\Ext w0 wr) (fun i _=>l.length-(intOf i).toNat)
 case atStart=>exact ⟨0,Nat.zero_le _,rfl,rfl,Below.refl _ _⟩
 case round =>
  obtain ⟨k,hk,rfl,af,hB⟩:=hrel
  have a2:=Jh af
  have ab:=Jh hB
  have f7:=(az.out.ext hB) 7 _ rfl
  clear af hB
  by_cases ax:k<l.length
  ·have aq:k<l'.length:=by have:=QL.out;omega
   obtain ⟨s1,a6,a7⟩:=Es.get (HR.out.mono fun x _ b o h=>EAt.ext' (HX.out.trans ab.out) h) ax
   obtain ⟨s2,a8,a9⟩:=Es.get (be.out.mono fun x _ b o h=>EAt.ext' (HX.out.trans ab.out) h) aq
   obtain rfl:=HA.out (by omega)
   obtain rfl:=bb.out (by omega)
   have ar:=List.getElem_mem ax
   have HC:=Jh (fun W (hx:Ext wr W)=>IH.out _ ar l'[k] _ _ W ⟨s1,rfl,a7.ext hx⟩ ⟨s2,rfl,a9.ext hx⟩)
   have a1:=Jh (fun (h:l[k]=l'[k])=>V3 a2.out ax aq h)
   have a3:=Jh (fun (h:¬ l[k]=l'[k])=>aa.out (fun h2=>by injection h2 with h1 h2 h3 h4 h5 h6 h7 h8;subst h8;exact h rfl))
   have ah:=Jh a6
   have a0:=Jh a8
   obtain ⟨x,hx⟩:∃ x,l[k]=x:=⟨_,rfl⟩
   obtain ⟨y,hy⟩:∃ y,l'[k]=y:=⟨_,rfl⟩
   rw [hx,hy] at HC a1 a3
   rw [hx] at ah
   rw [hy] at a0
   obtain ⟨c,hc⟩:∃ c,eqE x y=c:=⟨_,rfl⟩
   rw [hc] at HC
   have au:=Jh hc
   clear hx hy hc a6 a7 a8 a9 ar
   go_upto_region 6 with fail
   refine Jg wr fun hH=>?_
   try simp only [J]
   (refine Jt 0 _ rfl (yif_load1 rfl (by intro W hW;clear hW;go_simp;rfl)) hH ?_;try simp only [J])
   (refine Jt 1 (.slice (some ⟨b,o,Option.none⟩) l.length cap) rfl (yif_load1 rfl (by intro W hW;have y7:=(az.out.ext (ab.out.trans hW)) 7 _ rfl;clear hW f7;go_simp)) hH ?_;try simp only [J])
   (refine Ji 2 _ rfl hH ?_;try simp only [J])
   (refine Jp 3 (.pointer (some ⟨b,o+k*8,Option.none⟩)) rfl hH ?_;try simp only [J])
   (refine Jt 4 (.agg (x.cells s1).toArray) rfl (Ar rfl 40 _ rfl rfl (fun W hW=>ah.out.ext hW) Ah rfl) hH ?_;try simp only [J])
   (refine Jt 5 _ rfl (yif_load1 rfl (by intro W hW;clear hW;go_simp;rfl)) hH ?_;try simp only [J])
   (refine Jt 6 (.slice (some ⟨b',o',Option.none⟩) l'.length ag) rfl (yif_load1 rfl (by intro W hW;have y7:=(bc.out.ext (ab.out.trans hW)) 7 _ rfl;clear hW f7;go_simp)) hH ?_;try simp only [J])
   (refine Ji 7 _ rfl hH ?_;try simp only [J])
   (refine Jp 8 (.pointer (some ⟨b',o'+k*8,Option.none⟩)) rfl hH ?_;try simp only [J])
   (refine Jt 9 (.agg (y.cells s2).toArray) rfl (Ar rfl 40 _ rfl rfl (fun W hW=>a0.out.ext hW) Ah rfl) hH ?_;try simp only [J])
   refine Jr 10 rfl fun K hK=>?_
   go_simp
   refine (HC.out _ hH).mono ?_
   rintro r w1 ⟨rfl,bg⟩
   refine hK.out _ _ (hH.trans bg) (fun hH=>?_)
   clear hK K
   try simp only [J]
   (refine Jk 11 (.bool (!c)) rfl hH ?_;try simp only [J])
   refine Jz ?_
   cases c
   ·have HF:=Jh (a3.out (fun h=>by rw [Ra h] at au;exact absurd au.out (by decide)))
    go_wp2_with fail
    go_ret
    exact ⟨Af HF.out.symm,HX.out.trans (ab.out.trans hH)⟩
   ·have HF:=Jh (a1.out ((Kq x y).1 au.out))
    go_wp2_with fail
    go_roundw
    case rel=>exact ⟨k+1,by omega,by go_num,HF.out,ab.out.trans hH⟩
    case measure=>simp [intOf];omega
  ·obtain rfl:k=l.length:=by omega
   have af:=a2.out
   rw [List.take_length,QL.out,List.take_length] at af
   have HF:=Jh (bd.out (by rw [af]))
   clear af
   go_wp2_with fail
   go_ret
   exact ⟨Af HF.out.symm,HX.out.trans ab.out⟩
theorem Kg (x:E):Zj x:=E.ind Xh x
def Uy (l:List T):Prop:=∀ (r:List T) (s s':Value) (w:World),Ts w s l->Ts w s' r ->
  Calls Tryz.prog 107 #[s,s'] w fun r' w'=>r'=.returned (.bool (Bg eqT l r))/\Ext w w'
theorem Pw (l:List T) (ih:∀ t∈l,Uy t.l):Uy l:=by
 intro r s s' w h h'
 have IH:=Jh ih
 clear ih
 obtain ⟨a,b,o,cap,rfl,cw,cx,ha,hr⟩:=h.open
 obtain ⟨a',b',o',cm,rfl,co,cp,bt,b7⟩:=h'.open
 have HR:=Jh hr
 have cd:=Jh b7
 have HA:=Jh ha
 have ca:=Jh bt
 clear hr b7 ha bt h h'
 go_enter Tryz.func107,Tryz.ntmps107
 by_cases ql:l.length=r.length
 rotate_left
 ·have cl:(((l.length:Nat):Int) != ((r.length:Nat):Int))=true:=by rw [bne_iff_ne];omega
  have HF:=Jh (Aa2 (l:=l) (r:=r) (fun h=>ql (by rw [h])))
  clear ql
  go_wp2_with fail
  go_ret
  exact ⟨Af HF.out.symm,Below.refl _ _⟩
 have cl:(((l.length:Nat):Int) != ((r.length:Nat):Int))=false:=by rw [bne_eq_false_iff_eq];omega
 have QL:=Jh ql
 clear ql
 go_upto_region 3 with fail
 clear cl
 go_wp2_with fail
 go_loopw [5,6,7,8] (fun i _ _ _ wr=>∃ k:Nat,k<=l.length/\i=.int .i64 k/\l.take k=r.take k/\Ext w wr) (fun i _ _ _ _=>l.length-(intOf i).toNat)
 case atStart=>exact ⟨0,Nat.zero_le _,rfl,rfl,Below.refl _ _⟩
 case round =>
  obtain ⟨k,hk,rfl,ap,hB⟩:=hrel
  have bs:=Jh ap
  have u:=Jh hB
  clear ap hB
  by_cases bf:k<l.length
  ·have a8:k<r.length:=by have:=QL.out;omega
   obtain ⟨cu,bz,b5,bh⟩:=VT.get (HR.out.mono fun x _ b o h=>TAt.ext' u.out h) bf
   obtain ⟨cv,b0,b6,b3⟩:=VT.get (cd.out.mono fun x _ b o h=>TAt.ext' u.out h) a8
   obtain rfl:=HA.out (by omega)
   obtain rfl:=ca.out (by omega)
   have ay:=IH.out _ (List.getElem_mem bf)
   have bp:=Jh (fun (h:l[k]=r[k])=>V3 bs.out bf a8 h)
   have ab:=Jh (fun (h:¬ l[k]=r[k])=>Aa2 (l:=l) (r:=r) (fun h2=>by subst h2;exact h rfl))
   obtain ⟨x,hx⟩:∃ x,l[k]=x:=⟨_,rfl⟩
   obtain ⟨y,hy⟩:∃ y,r[k]=y:=⟨_,rfl⟩
   rw [hx,hy] at bp ab
   rw [hx] at bh ay
   rw [hy] at b3
   clear hx hy
   obtain ⟨op,sig,hi,lo,e,tl⟩:=x
   obtain ⟨av,ac,ar,au,e',ai⟩:=y
   obtain ⟨se,sl,rfl,az,ah⟩:=bh
   obtain ⟨c1,a5,rfl,al,am⟩:=b3
   simp only at az ah al am ay
   have HC:=Jh (fun W (hx:Ext wr W)=>ay ai sl a5 W (ah.ext hx) (am.ext hx))
   obtain ⟨a1,b1,o1,aj,rfl,cy,cz,bu,b8⟩:=az.open
   obtain ⟨a2,b2,o2,ak,rfl,ch,c0,bv,b9⟩:=al.open
   have cb:=Jh bu
   have cf:=Jh b8
   have cc:=Jh bv
   have cg:=Jh b9
   have bb:=Jh (show (T.cells ⟨op,sig,hi,lo,e,tl⟩ (.slice a1 e.length aj) sl).all (·.oneCell')=true by simp [ah.one,az.one,Bc])
   have bc:=Jh (show (T.cells ⟨av,ac,ar,au,e',ai⟩ (.slice a2 e'.length ak) a5).all (·.oneCell')=true by simp [am.one,al.one,Bc])
   have aw:=Jh b0
   clear bu b8 bv b9 az al ah am ay b0
   have bg:=Ab wr (.cells (T.cells ⟨op,sig,hi,lo,e,tl⟩ (.slice a1 e.length aj) sl).toArray 44)
   have bw:=Has.alloc wr (T.cells ⟨op,sig,hi,lo,e,tl⟩ (.slice a1 e.length aj) sl) 44
   go_upto_region 7 with (first | ((with_reducible show Jl 44);refine Aa rfl 44 _ rfl rfl (bz) Aw b5 ?_) | ((with_reducible show Js 44);refine Ad rfl 44 _ _ rfl rfl (by first | rfl | simp) rfl Aw (b5) rfl (bb.out) ?_))
   generalize wr.alloc _=w2 at *
   have bi:=Ab w2 (.cells (T.cells ⟨av,ac,ar,au,e',ai⟩ (.slice a2 e'.length ak) a5).toArray 44)
   have bx:=Has.alloc w2 (T.cells ⟨av,ac,ar,au,e',ai⟩ (.slice a2 e'.length ak) a5) 44
   go_upto_region 8 with (first | ((with_reducible show Jl 44);refine Aa rfl 44 _ rfl rfl (aw.out.ext bg) Aw b6 ?_) | ((with_reducible show Js 44);refine Ad rfl 44 _ _ rfl rfl (by first | rfl | simp) rfl Aw (b6) rfl (bc.out) ?_))
   generalize w2.alloc _=w3 at *
   have ae:=Jh (bw.ext bi)
   have af:=Jh bx
   have aa:=Jh (bg.trans bi)
   clear bg bw bi bx bz
   have f0:=ae.out 0 _ rfl
   have g0:=af.out 0 _ rfl
   have f1:=ae.out 1 _ rfl
   have g1:=af.out 1 _ rfl
   have f2:=ae.out 2 _ rfl
   have g2:=af.out 2 _ rfl
   have f3:=ae.out 3 _ rfl
   have g3:=af.out 3 _ rfl
   have f4:=ae.out 4 _ rfl
   have g4:=af.out 4 _ rfl
   have f5:=ae.out 5 _ rfl
   have g5:=af.out 5 _ rfl
   by_cases a4:op=av
   rotate_left
   ·have ct:(op != av)=true:=by rw [bne_iff_ne];exact a4
    have HF:=Jh (ab.out (fun h=>by injection h with h1 h2 h3 h4 h5 h6;exact a4 (by assumption)))
    clear a4
    go_wp2_with fail
    go_ret
    exact ⟨Af HF.out.symm,u.out.trans aa.out⟩
   subst a4
   by_cases an:sig=ac
   rotate_left
   ·have cn:(sig != ac)=true:=by rw [bne_iff_ne];exact an
    have HF:=Jh (ab.out (fun h=>by injection h with h1 h2 h3 h4 h5 h6;exact an (by assumption)))
    clear an
    go_wp2_with fail
    go_ret
    exact ⟨Af HF.out.symm,u.out.trans aa.out⟩
   subst an
   by_cases a0:hi=ar
   rotate_left
   ·have cq:(hi != ar)=true:=by rw [bne_iff_ne];exact a0
    have HF:=Jh (ab.out (fun h=>by injection h with h1 h2 h3 h4 h5 h6;exact a0 (by assumption)))
    clear a0
    go_wp2_with fail
    go_ret
    exact ⟨Af HF.out.symm,u.out.trans aa.out⟩
   subst a0
   by_cases a3:lo=au
   rotate_left
   ·have cr:(lo != au)=true:=by rw [bne_iff_ne];exact a3
    have HF:=Jh (ab.out (fun h=>by injection h with h1 h2 h3 h4 h5 h6;exact a3 (by assumption)))
    clear a3
    go_wp2_with fail
    go_ret
    exact ⟨Af HF.out.symm,u.out.trans aa.out⟩
   subst a3
   by_cases qe:e.length=e'.length
   rotate_left
   ·have ce:(((e.length:Nat):Int) != ((e'.length:Nat):Int))=true:=by rw [bne_iff_ne];omega
    have HF:=Jh (ab.out (fun h=>by injection h with h1 h2 h3 h4 h5 h6;exact qe (by rw [h5])))
    clear qe
    go_wp2_with fail
    go_ret
    exact ⟨Af HF.out.symm,u.out.trans aa.out⟩
   have ce:(((e.length:Nat):Int) != ((e'.length:Nat):Int))=false:=by rw [bne_eq_false_iff_eq];omega
   have QE:=Jh qe
   clear qe
   obtain ⟨bq,be⟩:∃ bq,Bg eqT tl ai=bq:=⟨_,rfl⟩
   rw [be] at HC
   have bk:=Jh be
   clear be
   cases bq
   ·have HF:=Jh (ab.out (fun h=>by injection h with h1 h2 h3 h4 h5 h6;have h7:=(N7 tl ai).2 h6;rw [bk.out] at h7;cases h7))
    go_wp2_with (first | (go_at_call 107;refine (HC.out _ aa.out).mono ?_;rintro r' w4 ⟨rfl,aq⟩))
    go_ret
    exact ⟨Af HF.out.symm,u.out.trans (aa.out.trans aq)⟩
   ·go_upto_region 10 with (first | (go_at_call 107;refine (HC.out _ aa.out).mono ?_;rintro r' w4 ⟨rfl,aq⟩))
    have a6:=Jh (ae.out.ext aq)
    have bj:=Jh (af.out.ext aq)
    have ax:=Jh (aa.out.trans aq)
    clear ce aq HC f0 g0 f1 g1 f2 g2 f3 g3 f4 g4 f5 g5
    go_wp2_with fail
    go_loopw [8] (fun i cj=>∃ j:Nat,j<=e.length/\i=.int .i64 j/\e.take j=e'.take j/\Ext w4 cj) (fun i _=>e.length-(intOf i).toNat)
    case atStart=>exact ⟨0,Nat.zero_le _,rfl,rfl,Below.refl _ _⟩
    case round =>
     obtain ⟨j,hj,rfl,ao,bd⟩:=hrel
     have br:=Jh ao
     have ag:=Jh bd
     have f4:=(a6.out.ext bd) 4 _ rfl
     clear ao bd
     by_cases b4:j<e.length
     ·have a7:j<e'.length:=by have:=QE.out;omega
      obtain ⟨s1,q1,q2⟩:=Es.get (cf.out.mono fun x _ b o h=>EAt.ext' (ax.out.trans ag.out) h) b4
      obtain ⟨s2,q3,q4⟩:=Es.get (cg.out.mono fun x _ b o h=>EAt.ext' (ax.out.trans ag.out) h) a7
      obtain rfl:=cb.out (by omega)
      obtain rfl:=cc.out (by omega)
      have ba:=Jh (fun W (hx:Ext wr W)=>Kg e[j] e'[j] _ _ W ⟨s1,rfl,q2.ext hx⟩ ⟨s2,rfl,q4.ext hx⟩)
      have bm:=Jh (fun (h:e[j]=e'[j])=>V3 br.out b4 a7 h)
      have bo:=Jh (fun (h:¬ e[j]=e'[j])=>ab.out (fun h2=>by injection h2 with h1 h2 h3 h4 h5 h6;subst h5;exact h rfl))
      have bl:=Jh q1
      have aw:=Jh q3
      obtain ⟨x,hx⟩:∃ x,e[j]=x:=⟨_,rfl⟩
      obtain ⟨y,hy⟩:∃ y,e'[j]=y:=⟨_,rfl⟩
      rw [hx,hy] at ba bm bo
      rw [hx] at bl
      rw [hy] at aw
      obtain ⟨c,hc⟩:∃ c,eqE x y=c:=⟨_,rfl⟩
      rw [hc] at ba
      have a9:=Jh hc
      clear hx hy hc q1 q2 q3 q4
      go_upto_region 13 with fail
      refine Jg wr fun hH=>?_
      try simp only [J]
      (refine Jt 0 _ rfl (yif_load1 rfl (by intro W hW;clear hW;go_simp;rfl)) hH ?_;try simp only [J])
      (refine Jt 1 (.slice (some ⟨b1,o1,Option.none⟩) e.length aj) rfl (yif_load1 rfl (by intro W hW;have y7:=(a6.out.ext (ag.out.trans hW)) 4 _ rfl;clear hW f4;go_simp)) hH ?_;try simp only [J])
      (refine Ji 2 _ rfl hH ?_;try simp only [J])
      (refine Jp 3 (.pointer (some ⟨b1,o1+j*8,Option.none⟩)) rfl hH ?_;try simp only [J])
      (refine Jt 4 (.agg (x.cells s1).toArray) rfl (Ar rfl 40 _ rfl rfl (fun W hW=>bl.out.ext hW) Ah rfl) hH ?_;try simp only [J])
      (refine Jt 5 _ rfl (yif_load1 rfl (by intro W hW;clear hW;go_simp;rfl)) hH ?_;try simp only [J])
      (refine Jt 6 (.slice (some ⟨b2,o2,Option.none⟩) e'.length ak) rfl (yif_load1 rfl (by intro W hW;have y7:=(bj.out.ext (ag.out.trans hW)) 4 _ rfl;clear hW f4;go_simp)) hH ?_;try simp only [J])
      (refine Ji 7 _ rfl hH ?_;try simp only [J])
      (refine Jp 8 (.pointer (some ⟨b2,o2+j*8,Option.none⟩)) rfl hH ?_;try simp only [J])
      (refine Jt 9 (.agg (y.cells s2).toArray) rfl (Ar rfl 40 _ rfl rfl (fun W hW=>aw.out.ext hW) Ah rfl) hH ?_;try simp only [J])
      refine Jr 10 rfl fun K hK=>?_
      go_simp
      refine (ba.out _ hH).mono ?_
      rintro r' w1 ⟨rfl,ci⟩
      refine hK.out _ _ (hH.trans ci) (fun hH=>?_)
      clear hK K
      try simp only [J]
      (refine Jk 11 (.bool (!c)) rfl hH ?_;try simp only [J])
      refine Jz ?_
      cases c
      ·have HF:=Jh (bo.out (fun h=>by rw [Ra h] at a9;exact absurd a9.out (by decide)))
       go_wp2_with fail
       go_ret
       exact ⟨Af HF.out.symm,u.out.trans (ax.out.trans (ag.out.trans hH))⟩
      ·have HF:=Jh (bm.out ((Kq x y).1 a9.out))
       go_wp2_with fail
       go_roundw
       case rel=>exact ⟨j+1,by omega,by go_num,HF.out,ag.out.trans hH⟩
       case measure=>simp [intOf];omega
     ·obtain rfl:j=e.length:=by omega
      have ao:=br.out
      rw [List.take_length,QE.out,List.take_length] at ao
      have HF:=Jh (bp.out (by rw [ao,(N7 tl ai).1 bk.out]))
      clear ao
      go_wp2_with fail
      go_roundw
      case rel=>exact ⟨k+1,by omega,by go_num,HF.out,u.out.trans (ax.out.trans ag.out)⟩
      case measure=>simp [intOf];omega
  ·obtain rfl:k=l.length:=by omega
   have ap:=bs.out
   rw [List.take_length,QL.out,List.take_length] at ap
   have HF:=Jh ((N7 l r).2 ap)
   clear ap
   go_wp2_with fail
   go_ret
   exact ⟨Af HF.out.symm,u.out⟩
theorem Vq (l:List T):Uy l:=Pw l fun t _=>T.ind (P:=fun t=>Uy t.l) (fun t ih=>Pw t.l ih) t
def Afy (w:World) (q:T × Int) (r:Ending) (w':World):Prop:=∃ cs g,r=.returned (.tuple #[.agg cs.toArray,.int .i64 g])/\g=q.2/\cs.length=6/\cs.all (·.oneCell')=true/\Ext w w'/\(g=0->FV VT w.heap.size w' cs q.1)
def N4 (w:World) (q:List T × Int) (r:Ending) (w':World):Prop:=∃ v g,r=.returned (.tuple #[v,.int .i64 g])/\g=q.2/\Ext w w'/\(g=0->Bi VT 44 6 w.heap.size v q.1 w')/\(g≠0->v=.slice Option.none 0 0)
def Ahb (ls:List Ai) (ck:Bool) (t:T):Prop:=∀ (s0:Value) (cs:List Value) (w:World),Cq w s0 ls->VT w cs t ->
 Calls Tryz.prog 142 #[s0,.agg cs.toArray,.bool ck] w (Afy w (szT ls ck t 0 0))
def S0 (ls:List Ai) (ck:Bool) (l:List T):Prop:=∀ (s0 s:Value) (w:World),Cq w s0 ls->Ts w s l ->
 Calls Tryz.prog 105 #[s0,s,.bool ck] w (N4 w (Cm ls ck 0 0 l))
theorem Aat (ls:List Ai) (ck:Bool) (l:List T) (ih:∀ t∈l,Ahb ls ck t) (hl:l.length<=1048576):S0 ls ck l:=by
 intro s0 s w hS h
 have IH:=Jh ih
 have HS:=Jh hS
 clear ih hS
 obtain ⟨a,b,o,cap,rfl,bc,bd,ha,hr⟩:=h.open
 have HR:=Jh hr
 have HA:=Jh ha
 clear hr ha h
 go_enter Tryz.func105,Tryz.ntmps105
 go_wp2_with fail
 go_loopw [8,9,10,11] (fun u i _ _ wr=>∃ (k:Nat) (vv:Value),vv=u/\k<=l.length/\i=.int .i64 k/\(Cm ls ck 0 0 (l.take k)).2=0/\Bi VT 44 6 w.heap.size vv (Cm ls ck 0 0 (l.take k)).1 wr/\Ext w wr) (fun _ i _ _ _=>l.length-(intOf i).toNat)
 case atStart=>exact ⟨0,_,rfl,Nat.zero_le _,rfl,rfl,Bi.nil,Below.refl _ _⟩
 case round =>
  obtain ⟨k,vv,rfl,hk,rfl,hz,ab,hB⟩:=hrel
  have HZ:=Jh hz
  have ai:=Jh hB
  have bb:=hB.size
  clear hB
  by_cases aq:k<l.length
  ·obtain ⟨cs,a4,hn,ax⟩:=VT.get (HR.out.mono fun x _ b o h=>TAt.ext' ai.out h) aq
   obtain rfl:=HA.out (by omega)
   have am:l[k]∈l:=List.getElem_mem aq
   have HC:=Jh (IH.out _ am s0 cs wr (HS.out.ext ai.out) ax)
   have ag:=Mq ls ck 0 0 l k aq
   rw [hz] at ag
   have aj:(Cm ls ck 0 0 (l.take k)).1.length=k:=by rw [Hc,List.length_take];omega
   have ac:=Uj ls ck l 0 0 (k+1)
   rw [ag] at ac
   obtain ⟨rr,az⟩:∃ rr,(Cm ls ck 0 0 (l.take k)).1=rr:=⟨_,rfl⟩
   rw [az] at ab ag aj
   obtain ⟨q,hq⟩:∃ q,szT ls ck l[k] 0 0=q:=⟨_,rfl⟩
   rw [hq] at HC ag ac
   have aw:=Jh ag
   have an:=Jh ac
   have av:=Jh aj
   have ae:=Jh ab
   clear hz ag ac aj az hq ab am ax
   go_wp2_with (first | ((with_reducible show Jl 44);refine Aa rfl 44 _ rfl rfl (a4) Aw hn ?_) | (go_at_call 142;refine HC.out.mono ?_;intro r w3 a6;obtain ⟨aa,g,rfl,hg,h6,ak,ah,ap⟩:=a6;replace hg:=Jh hg;refine Hid.out ?_))
   refine Jh ?_
   have al:=Ab w3 (.cells aa.toArray 44)
   have a3:=Jh (Has.alloc w3 aa 44)
   have ao:=Jh (ah.trans al)
   have ba:w3.heap.size<(w3.alloc (.cells aa.toArray 44)).heap.size:=by simp
   have a9:=ah.size
   by_cases af:g=0
   ·have a0:=Jh (show FV VT wr.heap.size (w3.alloc (.cells aa.toArray 44)) aa q.1 from (ap af).ext al)
    have HG:=Jh (hg.out.symm.trans af)
    subst af
    clear ap al hg
    go_upto_region 6 with (first | ((with_reducible show Js 44);refine Ad rfl 44 _ _ rfl rfl (by first | rfl | simp) rfl Aw (h6) rfl (ak) ?_))
    generalize w3.alloc _=w4 at *
    go_wp2_with (first | ((with_reducible show Jl 44);refine Aa rfl 44 _ rfl rfl (a3.out) Aw h6 ?_) | ((with_reducible show Jw (Op.buildSlice _ _ _));refine B9 rfl _ _ rfl Nh rfl (cs:=aa) rfl h6 (by decide) ?_) | ((with_reducible show Jw (Op.call { callee:=.builtin .append,args:=_,argTypes:=_ }));refine De (V:=VT) rfl _ _ _ rfl Nh rfl ((ae.out.since (Al.of_ext ao.out)).since (Al.of_ext (Ab w4 (.cells aa.toArray 44)))) rfl h6 (Has.alloc w4 aa 44) ak ((a0.out.ext (Ab w4 (.cells aa.toArray 44))).st (N:=w.heap.size) (by omega) (fun k hk=>by have:=(ae.out.lt k hk).2;omega)) (by rw [av.out];omega) (by simp;omega) ?_;rw [av.out];intro g5 a8 w5 ar a5))
    have a7:=Ab w4 (.cells aa.toArray 44)
    have hR:∀ j,vv.ownBlock=some j->w.heap.size<=j:=fun j hj=>(ae.out.lt j hj).1
    have ay:=((ai.out.trans (ao.out.trans a7)).grownO a5 (fun j hj=>by have:=hR j hj;omega))
    go_roundw
    case rel=>exact ⟨k+1,_,rfl,by omega,by go_num,by rw [aw.out];exact HG.out,by rw [aw.out];exact ar,ay⟩
    case measure=>simp [intOf];omega
   ·have g1:(g != 0)=true:=by rw [bne_iff_ne];omega
    have HF:=Jh (show g=(Cm ls ck 0 0 l).2 by rw [an.out (show q.2≠0 by rw [<-hg.out];exact af)];exact hg.out)
    have a1:=Jh af
    clear ap hg al af
    go_upto_region 6 with (first | ((with_reducible show Js 44);refine Ad rfl 44 _ _ rfl rfl (by first | rfl | simp) rfl Aw (h6) rfl (ak) ?_))
    generalize w3.alloc _=w4 at *
    go_wp2_with fail
    go_ret2
    exact ⟨_,g,rfl,HF.out,ai.out.trans ao.out,fun h=>absurd h a1.out,fun _=>rfl⟩
  ·obtain rfl:k=l.length:=by omega
   rw [List.take_length] at ab
   have au:=HZ.out
   rw [List.take_length] at au
   have a2:=Jh au
   have ae:=Jh ab
   clear hz au ab
   go_wp2_with fail
   go_ret2
   exact ⟨_,0,rfl,a2.out.symm,ai.out,fun _=>ae.out,fun h=>absurd rfl h⟩
theorem Ade {ls:List Ai} {ck:Bool} {t:T} (h:An.armT ls t=true) (wd:Int):szT ls ck t wd 0 =
  (⟨t.op,t.sig,t.hi,t.lo,(Fi 0 wd t.e).1,(Cm ls ck 0 (Fi 0 wd t.e).2 t.l).1⟩,(Cm ls ck 0 (Fi 0 wd t.e).2 t.l).2):=by
 rw [An.armT_eq] at h
 simp only [Bool.and_eq_true,decide_eq_true_eq] at h
 have h4:t.op=4:=h.1.1.1.1.1
 have e0:Da ls ck t 0=0:=by unfold Da;rw [if_neg (by omega)]
 have e1:szW t wd=wd:=by unfold szW;rw [if_neg (by omega),if_neg (by omega),if_neg (by omega)]
 rw [Ns,e0,e1,if_neg (by omega),Afo h.2 wd 0]
theorem Xy (ls:List Ai) (ck:Bool) (wd:Int) (cz:0<=wd) (ch:wd<=9223372036854775807) (l:List T) (bl:∀ t∈l,An.armT ls t=true) (cw:∀ t∈l,∀ x∈t.e,F7 x) (aw:∀ t∈l,S0 ls ck t.l)
  (hl:l.length<=1048576) (co:∀ t∈l,t.e.length<=1048576) (s0 s:Value) (w:World) (hS:Cq w s0 ls) (h:Ts w s l) :
  Calls Tryz.prog 175 #[s0,s,.bool ck,.int .i64 wd] w (N4 w (Cm ls ck wd 0 l)):=by
 have b3:=Jh bl
 have dd:=Jh cw
 have dc:=Jh aw
 have c7:=Jh co
 have HS:=Jh hS
 have HW:=Jh (And.intro cz ch)
 clear bl cw aw hS co cz ch
 obtain ⟨a,b,o,cap,rfl,dn,dp,ha,hr⟩:=h.open
 have HR:=Jh hr
 have HA:=Jh ha
 clear hr ha h
 go_enter Tryz.func175,Tryz.ntmps175
 go_wp2_with fail
 go_loopw [10,11,12,13,14,15,16,17,18] (fun u i _ _ _ _ _ _ _ wr=>∃ (k:Nat) (vv:Value),vv=u/\k<=l.length/\i=.int .i64 k/\(Cm ls ck wd 0 (l.take k)).2=0/\Bi VT 44 6 w.heap.size vv (Cm ls ck wd 0 (l.take k)).1 wr/\Ext w wr) (fun _ i _ _ _ _ _ _ _ _=>l.length-(intOf i).toNat)
 case atStart=>exact ⟨0,_,rfl,Nat.zero_le _,rfl,rfl,Bi.nil,Below.refl _ _⟩
 case round =>
  obtain ⟨k,vv,rfl,hk,rfl,hz,al,hB⟩:=hrel
  have HZ:=Jh hz
  have a2:=Jh hB
  have dk:=hB.size
  clear hB
  by_cases bz:k<l.length
  ·obtain ⟨cs,cg,hn,ci⟩:=VT.get (HR.out.mono fun x _ b o h=>TAt.ext' a2.out h) bz
   obtain rfl:=HA.out (by omega)
   have af:l[k]∈l:=List.getElem_mem bz
   have cd:=Ade (ck:=ck) (b3.out _ af) wd
   have bi:=dd.out _ af
   have aw:=dc.out _ af
   have bf:=c7.out _ af
   have ax:=Mq ls ck wd 0 l k bz
   rw [hz,cd] at ax
   have bc:(Cm ls ck wd 0 (l.take k)).1.length=k:=by rw [Hc,List.length_take];omega
   have ai:=Uj ls ck l wd 0 (k+1)
   rw [ax] at ai
   obtain ⟨rr,cu⟩:∃ rr,(Cm ls ck wd 0 (l.take k)).1=rr:=⟨_,rfl⟩
   rw [cu] at al ax bc
   obtain ⟨x,hx⟩:∃ x,l[k]=x:=⟨_,rfl⟩
   rw [hx] at ci bi aw ax ai bf
   clear hz cu hx cd af
   obtain ⟨op,sig,hi,lo,e,tl⟩:=x
   obtain ⟨se,sl,rfl,az,ah⟩:=ci
   simp only at bi aw ax ai az ah bf
   have a9:=Jh ax
   have aq:=Jh ai
   have b6:=Jh bc
   have ak:=Jh al
   have db:=Jh bi
   have b8:=Jh (fun W (hx:Ext wr W)=>aw s0 sl W (HS.out.ext (a2.out.trans hx)) (ah.ext hx))
   obtain ⟨a1,b1,o1,ay,rfl,dq,dr,cc,cr⟩:=az.open
   have c1:=Jh cc
   have c9:=Jh cr
   have bq:=Jh (show (T.cells ⟨op,sig,hi,lo,e,tl⟩ (.slice a1 e.length ay) sl).all (·.oneCell')=true by simp [ah.one,az.one,Bc])
   have c4:=Jh bf
   clear ax ai bc al bi aw cc cr az ah bf
   have c0:=Ab wr (.cells (T.cells ⟨op,sig,hi,lo,e,tl⟩ (.slice a1 e.length ay) sl).toArray 44)
   have ce:=Blk.new wr (T.cells ⟨op,sig,hi,lo,e,tl⟩ (.slice a1 e.length ay) sl).toArray 44
   have dt:wr.heap.size<(wr.alloc (.cells (T.cells ⟨op,sig,hi,lo,e,tl⟩ (.slice a1 e.length ay) sl).toArray 44)).heap.size:=by simp
   go_upto_region 6 with (first | ((with_reducible show Jl 44);refine Aa rfl 44 _ rfl rfl (cg) Aw hn ?_) | ((with_reducible show Js 44);refine Ad rfl 44 _ _ rfl rfl (by first | rfl | simp) rfl Aw (hn) rfl (bq.out) ?_))
   generalize wr.alloc _=w2 at *
   have bo:=Jh ce
   have bu:=Jh c0
   clear ce c0 cg
   obtain ⟨wo,rfl⟩:∃ x,x=wr:=⟨_,rfl⟩
   go_wp2_with fail
   go_loopw [13,14,15,16] (fun u i _ _ wj=>∃ (j:Nat) (ve:Value),ve=u/\j<=e.length/\i=.int .i64 j/\(Fi 0 wd (e.take j)).2=0/\Bi VE 40 8 w2.heap.size ve (Fi 0 wd (e.take j)).1 wj/\Ext w2 wj) (fun _ i _ _ _=>e.length-(intOf i).toNat)
   case atStart=>exact ⟨0,_,rfl,Nat.zero_le _,rfl,rfl,Bi.nil,Below.refl _ _⟩
   case round =>
    obtain ⟨j,ve,rfl,hj,rfl,a6,ac,be⟩:=hrel
    have a0:=Jh be
    have dj:=be.size
    have f4:=(bo.out.ext be).has 4 _ rfl
    clear be
    by_cases bx:j<e.length
    ·obtain ⟨df,q1,qn,q2⟩:=VE.get (c9.out.mono fun x _ b o h=>EAt.ext' (bu.out.trans a0.out) h) bx
     obtain rfl:=c1.out (by omega)
     have af:=List.getElem_mem bx
     have HC:=Jh (db.out _ af wd df _ q2 HW.out.1 HW.out.2)
     have a5:=Uh 0 wd e j bx
     rw [a6] at a5
     have ar:(Fi 0 wd (e.take j)).1.length=j:=by rw [Ij,List.length_take];omega
     have ag:=Acz wd 0 e (j+1)
     rw [a5] at ag
     obtain ⟨re,ct⟩:∃ re,(Fi 0 wd (e.take j)).1=re:=⟨_,rfl⟩
     rw [ct] at ac a5 ar
     obtain ⟨x,hx⟩:∃ x,e[j]=x:=⟨_,rfl⟩
     rw [hx] at HC a5 ag
     have ca:=Jh a5
     have b9:=Jh ag
     have b5:=Jh ar
     have bt:=Jh ac
     have bk:=Jh (show szE 0 x wd=_ from by unfold szE;rw [if_neg (by decide)])
     clear a6 a5 ag ar ac ct hx af q2
     go_wp2_with (first | ((with_reducible show Jl 40);refine Aa rfl 40 _ rfl rfl (q1) Ah qn ?_) | (go_at_call 144;refine HC.out.mono ?_;intro r w3 bg;obtain ⟨aj,g,rfl,h8,bd,ao,ho⟩:=bg.open;clear bg;refine Hid.out ?_))
     refine Jh ?_
     have bj:=Ab w3 (.cells aj.toArray 40)
     have dg:=Jh (Has.alloc w3 aj 40)
     have bv:=Jh (ao.trans bj)
     have di:w3.heap.size<(w3.alloc (.cells aj.toArray 40)).heap.size:=by simp
     have cx:=ao.size
     rcases ho with ⟨rfl,y,hy,cj⟩ | ⟨hg,hy⟩
     ·have c5:=Jh (show FV VE wr.heap.size (w3.alloc (.cells aj.toArray 40)) aj y from fun W hW=>(cj.ext bj) W hW)
      have a8:=Jh (show szE 0 x wd=(y,0) by rw [bk.out,hy])
      clear cj hy bj
      go_upto_region 11 with (first | ((with_reducible show Js 40);refine Ad rfl 40 _ _ rfl rfl (by first | rfl | simp) rfl Ah (h8) rfl (bd) ?_))
      generalize w3.alloc _=w4 at *
      go_wp2_with (first | ((with_reducible show Jl 40);refine Aa rfl 40 _ rfl rfl (dg.out) Ah h8 ?_) | ((with_reducible show Jw (Op.buildSlice _ _ _));refine B9 rfl _ _ rfl Qt rfl (cs:=aj) rfl h8 (by decide) ?_) | ((with_reducible show Jw (Op.call { callee:=.builtin .append,args:=_,argTypes:=_ }));refine De (V:=VE) rfl _ _ _ rfl Qt rfl ((bt.out.since (Al.of_ext bv.out)).since (Al.of_ext (Ab w4 (.cells aj.toArray 40)))) rfl h8 (Has.alloc w4 aj 40) bd ((c5.out.ext (Ab w4 (.cells aj.toArray 40))).st (N:=w2.heap.size) (by omega) (fun k hk=>by have:=(bt.out.lt k hk).2;omega)) (by rw [b5.out];have:=c4.out;omega) (by simp;omega) ?_;rw [b5.out];intro g5 cb w5 av bw))
      have b0:=Ab w4 (.cells aj.toArray 40)
      have hR:∀ i,ve.ownBlock=some i->w2.heap.size<=i:=fun i hi=>(bt.out.lt i hi).1
      have bb:=((a0.out.trans (bv.out.trans b0)).grownO bw (fun i hi=>by have:=hR i hi;omega))
      go_roundw
      case rel=>exact ⟨j+1,_,rfl,by omega,by go_num,by rw [ca.out,a8.out],by rw [ca.out,a8.out];exact av,bb⟩
      case measure=>simp [intOf];omega
     ·have g1:(g != 0)=true:=by rw [bne_iff_ne];omega
      have a8:=Jh (show szE 0 x wd=(zE,g) by rw [bk.out,hy])
      have cm:(Fi 0 wd e).2=g:=by
       have h1:=b9.out (by rw [a8.out];show g≠0;omega)
       rw [a8.out] at h1;exact h1
      have cn:(Cm ls ck 0 (Fi 0 wd e).2 tl).2=g:=by rw [cm];exact Kd ls ck tl 0 g (by omega)
      have HF:=Jh (show g=(Cm ls ck wd 0 l).2 by
       have h1:=aq.out (by show (Cm ls ck 0 (Fi 0 wd e).2 tl).2≠0;omega)
       rw [h1];exact cn.symm)
      have bp:=Jh (show g≠0 by omega)
      clear hy bj cm cn
      go_upto_region 11 with (first | ((with_reducible show Js 40);refine Ad rfl 40 _ _ rfl rfl (by first | rfl | simp) rfl Ah (h8) rfl (bd) ?_))
      generalize w3.alloc _=w4 at *
      go_wp2_with fail
      go_ret2
      exact ⟨_,g,rfl,HF.out,a2.out.trans (bu.out.trans (a0.out.trans bv.out)),fun h=>absurd h bp.out,fun _=>rfl⟩
    ·obtain rfl:j=e.length:=by omega
     rw [List.take_length] at ac a6
     have dm:=Jh a6
     have bs:=Jh ac
     have an:=Ij 0 wd e
     obtain ⟨qe,cq⟩:∃ qe,(Fi 0 wd e).1=qe:=⟨_,rfl⟩
     rw [cq] at bs a9 an
     rw [a6] at a9 aq
     have c8:=Jh an
     obtain ⟨ae,aa,cy,-⟩:=bs.out.open
     rw [an] at cy
     subst cy
     have f5:=(bo.out.ext a0.out).has 5 _ rfl
     have c3:=Jh (bo.out.ext a0.out)
     have ba:=Jh (bu.out.trans a0.out)
     have da:=Jh (ak.out.since (Al.of_ext ba.out))
     clear cq an a6 ac
     go_wp2_with (first | (go_at_call 105;refine (b8.out _ ba.out).mono ?_;intro r w3 bg;obtain ⟨m,g,rfl,hg,ao,au,cp⟩:=bg;replace hg:=Jh hg;refine Hid.out ?_))
     refine Jh ?_
     have cx:=ao.size
     by_cases a3:g=0
     ·have ap:=Jh (au a3)
      have HG:=Jh (hg.out.symm.trans a3)
      subst a3
      obtain ⟨am,ab,hm,-⟩:=ap.out.open
      obtain ⟨qm,bh⟩:∃ qm,(Cm ls ck 0 0 tl).1=qm:=⟨_,rfl⟩
      rw [bh] at ap a9 hm
      have dl:=Jh (show qm.length=tl.length by rw [<-bh];exact Hc _ _ _ _ _)
      clear au cp bh hg
      subst hm
      have a7:=Jh (c3.out.ext ao)
      have z4:=a7.out.has 4 _ rfl
      have z5:=a7.out.has 5 _ rfl
      have r4:=a7.out.frozen 4
      have r5:=a7.out.frozen 5
      go_upto_region 19 with fail
      have cf:Blk _ wo.heap.size (T.cells ⟨op,sig,hi,lo,qe,qm⟩ (.slice ae e.length aa) (.slice am qm.length ab)).toArray 44:=(a7.out.set 4 (.slice ae e.length aa)).set 5 (.slice am qm.length ab)
      have a4:=A5 (Ay w3 wo.heap.size 4 (.slice ae e.length aa)) (Ay _ wo.heap.size 5 (.slice am qm.length ab))
      have du:=a4.size
      clear z4 z5 r4 r5
      generalize (w3.setCell _ _).setCell _ _=w4 at *
      have cl:FV VT wo.heap.size w4 (T.cells ⟨op,sig,hi,lo,qe,qm⟩ (.slice ae e.length aa) (.slice am qm.length ab)) ⟨op,sig,hi,lo,qe,qm⟩:=by
       intro W hW
       refine ⟨_,_,rfl,?_,?_⟩
       ·exact bs.out.sl (V:=VE) (At:=EAt) (fun _ _ _ _ _ h hv=>VE.at h hv) ((Al.of_ext ao).trans ((Al.of_grown a4 (by omega)).trans (hW.mono (by omega))))
       ·exact ap.out.sl (V:=VT) (At:=TAt) (fun _ _ _ _ _ h hv=>VT.at h hv) ((Al.of_grown a4 (by omega)).trans (hW.mono (by omega)))
      have cv:Al w.heap.size wo w4:=⟨by omega,fun b h1 h2=>(a4.block b (by omega) (by intro e;injection e;omega)).trans ((ba.out.trans ao).block b h2)⟩
      have bm:Ext w w4:=(a2.out.trans (ba.out.trans ao)).grown a4 (by omega)
      have c6:=Jh cl
      have br:=Jh (show (T.cells ⟨op,sig,hi,lo,qe,qm⟩ (.slice ae e.length aa) (.slice am qm.length ab)).all (·.oneCell')=true by rfl)
      have c2:=Jh cf
      have b7:=Jh (ak.out.since cv)
      have b4:=Jh bm
      clear cv bm cl cf a4 da
      go_wp2_with (first | ((with_reducible show Jl 44);refine Aa rfl 44 _ rfl rfl (c2.out.has) Aw rfl ?_) | ((with_reducible show Jw (Op.buildSlice _ _ _));refine B9 rfl _ _ rfl Nh rfl (cs:=T.cells ⟨op,sig,hi,lo,qe,qm⟩ (.slice ae e.length aa) (.slice am qm.length ab)) rfl rfl (by decide) ?_) | ((with_reducible show Jw (Op.call { callee:=.builtin .append,args:=_,argTypes:=_ }));refine De (V:=VT) rfl _ _ _ rfl Nh rfl (b7.out.since (Al.of_ext (Ab w4 (.cells (T.cells ⟨op,sig,hi,lo,qe,qm⟩ (.slice ae e.length aa) (.slice am qm.length ab)).toArray 44)))) rfl rfl (Has.alloc w4 (T.cells ⟨op,sig,hi,lo,qe,qm⟩ (.slice ae e.length aa) (.slice am qm.length ab)) 44) br.out ((c6.out.ext (Ab w4 (.cells (T.cells ⟨op,sig,hi,lo,qe,qm⟩ (.slice ae e.length aa) (.slice am qm.length ab)).toArray 44))).st (N:=w.heap.size) (by omega) (fun k hk=>by have:=(ak.out.lt k hk).2;omega)) (by rw [b6.out];omega) (by simp;omega) ?_;rw [b6.out];intro g5 cb w5 av bw))
      have b0:=Ab w4 (.cells (T.cells ⟨op,sig,hi,lo,qe,qm⟩ (.slice ae e.length aa) (.slice am qm.length ab)).toArray 44)
      have hR:∀ i,vv.ownBlock=some i->w.heap.size<=i:=fun i hi=>(ak.out.lt i hi).1
      have bb:=((b4.out.trans b0).grownO bw (fun i hi=>by have:=hR i hi;omega))
      go_roundw
      case rel=>exact ⟨k+1,_,rfl,by omega,by go_num,by rw [a9.out];exact HG.out,by rw [a9.out];exact av,bb⟩
      case measure=>simp [intOf];omega
     ·have g1:(g != 0)=true:=by rw [bne_iff_ne];omega
      have HF:=Jh (show g=(Cm ls ck wd 0 l).2 by
       have h1:=aq.out (by show (Cm ls ck 0 0 tl).2≠0;rw [<-hg.out];exact a3)
       rw [h1];exact hg.out)
      have bp:=Jh a3
      clear hg au a3
      go_wp2_with fail
      go_ret2
      exact ⟨_,g,rfl,HF.out,a2.out.trans (ba.out.trans ao),fun h=>absurd h bp.out,fun _=>rfl⟩
  ·obtain rfl:k=l.length:=by omega
   rw [List.take_length] at al
   have b2:=HZ.out
   rw [List.take_length] at b2
   have de:=Jh b2
   have ak:=Jh al
   clear hz b2 al
   go_wp2_with fail
   go_ret2
   exact ⟨_,0,rfl,de.out.symm,a2.out,fun _=>ak.out,fun h=>absurd rfl h⟩
end Go.Proofs.YtbliplladmamoaaGreat
