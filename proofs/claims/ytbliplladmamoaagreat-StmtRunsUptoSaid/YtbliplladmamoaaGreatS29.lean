/- Laws and walks that a claim of this seat leans on: Ref13, Ref14. -/
import Derived.Test.YtbliplladmamoaaGreatS28
import Derived.Test.YtbliplladmamoaaGreatS00
set_option maxRecDepth 100000
set_option maxHeartbeats 8000000
set_option linter.all false
namespace Go.Proofs.YtbliplladmamoaaGreat
open Go.RowKit
theorem Hy (j w:Int) (x:E):Fi j w [x]=([(szE j x w).1],(szE j x w).2):=rfl
theorem Afn (j w:Int):Fi j w []=([],j):=rfl
theorem Z1 {W:World} {B:Nat} {cs:List Value} {y:E} (h:Has W B 0 cs) (hv:VE W cs y):Es W (.slice (some ⟨B,0,none⟩) 1 1) [y] :=
 ⟨B,0,⟨_,1,rfl,Nat.le_refl _,by simp only [maxLen];decide,fun _=>rfl⟩,VE.at h hv,trivial⟩
structure Aha (ls:List Ai) (ck:Bool) (t:T):Prop where
 sh:An ls t=true
 wf:t.wf
 sized:∀ x∈t.e,F7 x
 bit:∀ x∈t.e,∀ (cs:List Value) (w:World),VE w cs x->Calls Tryz.prog 106 #[.agg cs.toArray] w (Dc w (Ao x (-1)))
 wid:∀ x∈t.e,∀ y,Ao x 0=.ok y->0<=y.w/\y.w<=9223372036854775807
 some:t.op≠3->S0 ls ck t.l
 cases:t.op=3->∀ (wd:Int),0<=wd->wd<=9223372036854775807->∀ (s0 s:Value) (w:World),Cq w s0 ls->Ts w s t.l->Calls Tryz.prog 175 #[s0,s,.bool ck,.int .i64 wd] w (N4 w (Cm ls ck wd 0 t.l))
abbrev Nu:List Value:=[.int .i64 0,.int .i64 0,.int .i64 0,.int .i64 0,.slice Option.none 0 0,.slice Option.none 0 0]
theorem Acc (ls:List Ai) (eb:∀ x∈ls,x.w<=64) (ck:Bool) (t:T) (ee:Aha ls ck t):Ahb ls ck t:=by
 intro s0 cs w hS hV
 obtain ⟨cg,ec,dd,a4,cl,dc,c3⟩:=ee
 have ci:=(L7 ls eb t).1 cg
 have cj:=((Hu ls t).1 ci).1
 have hq:=Ns ls ck t 0 0
 rw [Ff] at cg
 obtain ⟨op,sig,hi,lo,e,l⟩:=t
 simp only at cg dd a4 cl dc c3 cj hq
 obtain ⟨se,sl,rfl,da,db⟩:=hV
 have cz:=Jh dc
 have d5:=Jh c3
 have dl:=Jh dd
 have d4:=Jh a4
 have dm:=Jh cl
 have HS:=Jh hS
 have em:=Jh da
 have co:=Jh db
 have dk:=Jh cj
 have b5:=Jh cg
 obtain ⟨q,c8⟩:∃ q,szT ls ck ⟨op,sig,hi,lo,e,l⟩ 0 0=q:=⟨_,rfl⟩
 rw [c8] at hq
 have HQ:=Jh hq
 obtain ⟨a0,b0,o0,ef,rfl,er,es,dn,dw⟩:=hS.open
 obtain ⟨a1,b1,o1,ai,rfl,en,d9,dp,dx⟩:=da.open
 obtain ⟨a2,b2,o2,ac,rfl,eo,ep,-,-⟩:=db.open
 have d3:=Jh dn
 have d7:=Jh dw
 have cx:=Jh dp
 have cy:=Jh dx
 rw [c8]
 clear c8 hq cg dd a4 cl dc c3 ci cj hS da db dn dw dp dx ec
 have cr:=Jh (show (T.cells ⟨op,sig,hi,lo,e,l⟩ (.slice a1 e.length ai) (.slice a2 l.length ac)).all (·.oneCell')=true by rfl)
 have hx:=(Ab w (.cells (T.cells ⟨op,sig,hi,lo,e,l⟩ (.slice a1 e.length ai) (.slice a2 l.length ac)).toArray 44)).alloc (.cells Nu.toArray 44)
 have c0:=(Blk.new w (T.cells ⟨op,sig,hi,lo,e,l⟩ (.slice a1 e.length ai) (.slice a2 l.length ac)).toArray 44).alloc (.cells Nu.toArray 44)
 have cp:=Blk.new (w.alloc (.cells (T.cells ⟨op,sig,hi,lo,e,l⟩ (.slice a1 e.length ai) (.slice a2 l.length ac)).toArray 44)) Nu.toArray 44
 simp only [World.size_alloc] at cp
 go_enter Tryz.func142,Tryz.ntmps142
 go_upto_region 1 with fail
 generalize (w.alloc _).alloc _=w0 at *
 have eg:w.heap.size+1<w0.heap.size:=cp.lt
 have cq:=Ab w0 (.cells (T.cells ⟨op,sig,hi,lo,e,l⟩ (.slice a1 e.length ai) (.slice a2 l.length ac)).toArray 44)
 have dq:=Blk.new w0 (T.cells ⟨op,sig,hi,lo,e,l⟩ (.slice a1 e.length ai) (.slice a2 l.length ac)).toArray 44
 have eq:w0.heap.size<(w0.alloc (.cells (T.cells ⟨op,sig,hi,lo,e,l⟩ (.slice a1 e.length ai) (.slice a2 l.length ac)).toArray 44)).heap.size:=by simp
 go_upto_region 3 with (first | ((with_reducible show Jl 44);refine Aa rfl 44 _ rfl rfl (c0.has) Aw rfl ?_) | ((with_reducible show Js 44);refine Ad rfl 44 _ _ rfl rfl (by first | rfl | simp) rfl Aw (rfl) rfl (cr.out) ?_))
 generalize w0.alloc _=w2 at *
 have K4:=Jh (c0.ext cq)
 have K6:=Jh (cp.ext cq)
 have K8:=Jh dq
 have ao:=Jh (hx.trans cq)
 clear hx c0 cp cq dq cr
 have f0:=K4.out.has 0 _ rfl
 by_cases o5:op=5
 ·subst o5
  have he:e=[]:=by
   have h:=b5.out
   rw [if_neg (by decide:¬ (5:Int)=3),if_neg (by decide:¬ (5:Int)=1),if_neg (by decide:¬ (5:Int)=2),if_pos rfl] at h
   split at h
   ·cases h
   ·simp only [Bool.and_eq_true,decide_eq_true_eq] at h
    exact List.eq_nil_of_length_eq_zero h.1
  subst he
  have a5:=Jh (show q=(⟨5,sig,hi,lo,[],(Cm ls ck 0 0 l).1⟩,(Cm ls ck 0 0 l).2) by
   rw [HQ.out];simp only [Afn,Da];rfl)
  have bk:=Jh (cz.out (by decide))
  have bq:=Jh (show ∀ W,Al (w0.heap.size+1) w2 W->Es W (.slice a1 0 ai) [] from fun W _=>Sl.nil0 _ _ d9)
  have bx:=K4
  have a6:=K6
  have bg:Hid (Blk w2 w0.heap.size [.int .i64 5,.int .i64 sig,.int .i64 hi,.int .i64 lo,.slice a1 0 ai,.slice a2 l.length ac].toArray 44):=K8
  have b8:=Jh (show Ext w2 w2 from Below.refl _ _)
  have b4:=Jh (show (Value.slice a1 0 ai).oneCell'=true from rfl)
  have f5:=bx.out.has 5 _ rfl
  go_upto_region 26 with (first | (go_at_call 105;refine (bk.out _ (.slice a2 l.length ac) w2 (HS.out.ext (ao.out.trans b8.out)) (co.out.ext (ao.out.trans b8.out))).mono ?_;intro r w3 aq;obtain ⟨m,g,rfl,hg,j,aa,ap⟩:=aq;replace hg:=Jh hg))
  obtain ⟨am,lm,cm,bu⟩:∃ am lm cm,m=.slice am lm cm:=by
   by_cases h:g=0
   ·obtain ⟨a9,c9,h9,-⟩:=(aa h).open;exact ⟨_,_,_,h9⟩
   ·exact ⟨_,_,_,ap h⟩
  subst bu
  have a7:=Jh (bg.out.ext j)
  have b9:=Jh (a6.out.ext j)
  have au:=Jh aa
  have z5:=a7.out.has 5 _ rfl
  have r5:=a7.out.frozen 5
  have dy:=j.size
  clear aa ap f5
  go_upto_region 27 with fail
  have al:Blk _ w0.heap.size [.int .i64 5,.int .i64 sig,.int .i64 hi,.int .i64 lo,(.slice a1 0 ai),.slice am lm cm].toArray 44:=a7.out.set 5 (.slice am lm cm)
  have ae:=Ay w3 w0.heap.size 5 (.slice am lm cm)
  have bt:=Jh (b9.out.grown ae (by omega))
  have bs:=Jh (((ao.out.trans b8.out).trans j).grown ae (by omega))
  have cf:=ae.size
  have bp:=Jh al
  have br:=Jh ae
  have b6:=Jh j
  clear z5 r5 al ae j
  generalize w3.setCell _ _=w5 at *
  go_wp2_with (first | ((with_reducible show Jl 44);refine Aa rfl 44 _ rfl rfl (bp.out.has) Aw rfl ?_) | ((with_reducible show Js 44);have aw:=bt.out;refine Ac rfl 44 _ _ rfl aw rfl (cs:=[.int .i64 5,.int .i64 sig,.int .i64 hi,.int .i64 lo,(.slice a1 0 ai),.slice am lm cm]) rfl Aw rfl rfl (by rfl) ?_;intro w9 av an) | ((with_reducible show bodyPost _ _ _ _ _ _);refine Hid.out ?_))
  refine Jh ?_
  refine Ak rfl rfl rfl av.has Aw rfl rfl ?_
  refine ⟨_,g,rfl,by rw [a5.out];exact hg.out,rfl,(by rfl),bs.out.grown an (by omega),fun h0=>?_⟩
  rw [a5.out]
  intro W hW
  have bc:Al (w0.heap.size+1) w3 W:=(Al.of_grown br.out (by omega)).trans ((Al.of_grown an (by omega)).trans (hW.mono (by omega)))
  exact ⟨_,_,rfl,bq.out W ((Al.of_ext b6.out).trans (bc.mono (by omega))),(au.out h0).sl (V:=VT) (At:=TAt) (fun _ _ _ _ _ h hv=>VT.at h hv) (bc.mono (by omega))⟩
 by_cases o2:op=2
 ·subst o2
  have hh:e.length=1/\l.length=2:=by
   have h:=b5.out
   rw [if_neg (by decide:¬ (2:Int)=3),if_neg (by decide:¬ (2:Int)=1),if_pos rfl] at h
   split at h
   ·cases h
   ·simp only [Bool.and_eq_true,decide_eq_true_eq] at h
    exact h.1.1
  have bb:=hh.1
  obtain ⟨x,hex⟩:=List.length_eq_one_iff.1 bb
  have ah:0<e.length:=by omega
  obtain rfl:=cx.out ah
  obtain ⟨sx,az,be⟩:=Es.get (cy.out.mono fun x _ b o h=>EAt.ext' (Below.refl _ _) h) ah
  have bo:e[0]=x:=by simp [hex]
  rw [bo] at az be
  rw [Nat.zero_mul,Nat.add_zero] at az
  have ax:x∈e:=by rw [hex];simp
  have a3:=Jh hex
  have bl:=Jh (az.ext ao.out)
  have bv:VE w2 (x.cells sx) x:=⟨sx,rfl,be.ext ao.out⟩
  clear bo az be hex
  have HC:=Jh (d4.out x ax _ w2 bv)
  have dj:=Jh bb
  have bk:=Jh (cz.out (by decide))
  clear bb hh bv ax
  have f4:=K4.out.has 4 _ rfl
  go_wp2_with (first | ((with_reducible show Jl 40);refine Aa rfl 40 _ rfl rfl (bl.out) Ah rfl ?_) | (go_at_call 106;refine HC.out.mono ?_;intro r w3 aq;obtain ⟨ab,g,rfl,h8,ar,j,ho⟩:=aq.open;clear aq;refine Hid.out ?_))
  refine Jh ?_
  have bd:=Ab w3 (.cells ab.toArray 40)
  have bz:=Jh (Has.alloc w3 ab 40)
  have b7:=Jh bd
  have aj:=Jh (j.trans bd)
  have dz:w3.heap.size<(w3.alloc (.cells ab.toArray 40)).heap.size:=by simp
  go_upto_region 13 with (first | ((with_reducible show Js 40);refine Ad rfl 40 _ _ rfl rfl (by first | rfl | simp) rfl Ah (h8) rfl (ar) ?_))
  generalize w3.alloc _=w4 at *
  clear bd f4
  go_wp2_with (first | ((with_reducible show Jl 40);refine Aa rfl 40 _ rfl rfl (bz.out) Ah h8 ?_) | ((with_reducible show Jw (Op.buildSlice _ _ _));refine B9 rfl _ _ rfl Qt rfl (cs:=ab) rfl h8 (by decide) ?_;refine Hid.out ?_))
  refine Jh ?_
  have ag:=Ab w4 (.cells ab.toArray 40)
  have al:=Blk.new w4 ab.toArray 40
  have cf:w4.heap.size<(w4.alloc (.cells ab.toArray 40)).heap.size:=by simp
  have dh:=aj.out.size
  obtain ⟨Bs,ba⟩:∃ Bs,w4.heap.size=Bs:=⟨_,rfl⟩
  rw [ba] at al ⊢
  have di:=Jh ba
  have ct:w2.heap.size<=Bs:=by omega
  clear ba
  generalize w4.alloc _=w5 at *
  have a8:=Jh (K8.out.ext (aj.out.trans ag))
  have z4:=a8.out.has 4 _ rfl
  have r4:=a8.out.frozen 4
  go_upto_region 14 with fail
  have a4:Blk _ w0.heap.size [.int .i64 2,.int .i64 sig,.int .i64 hi,.int .i64 lo,.slice (some ⟨Bs,0,Option.none⟩) 1 1,.slice a2 l.length ac].toArray 44:=a8.out.set 4 (.slice (some ⟨Bs,0,Option.none⟩) 1 1)
  have af:=Ay w5 w0.heap.size 4 (.slice (some ⟨Bs,0,Option.none⟩) 1 1)
  have bw:=Jh af
  have bf:=Jh ag
  have bg:=Jh a4
  have bx:=Jh ((K4.out.ext (aj.out.trans ag)).grown af (by omega))
  have a6:=Jh ((K6.out.ext (aj.out.trans ag)).grown af (by omega))
  have bj:=Jh (al.grown af (by omega))
  have ak:=Jh ((ao.out.trans (aj.out.trans ag)).grown af (by omega))
  have ci:=af.size
  have cw:=ag.size
  clear z4 r4 a4 af ag al
  generalize w5.setCell _ _=wt at *
  rcases ho with ⟨rfl,y,hy,bi⟩ | ⟨hg,hy⟩
  ·have b3:=Jh bi
   have a5:=Jh (show q=(⟨2,sig,hi,lo,[y],(Cm ls ck 0 0 l).1⟩,(Cm ls ck 0 0 l).2) by
    rw [HQ.out,a3.out];simp [Hy,szE,Da,szW,hy])
   have bq:=Jh (show ∀ W,Al (w0.heap.size+1) wt W->Es W (.slice (some ⟨Bs,0,Option.none⟩) 1 1) [y] from fun W hW =>
    Z1 ((hW.blk bj.out (by omega)).has) (b3.out W ((Al.of_ext (b7.out.trans bf.out)).trans ((Al.of_grown bw.out (by omega)).trans (hW.mono (by omega))))))
   have b4:=Jh (show (Value.slice (some ⟨Bs,0,Option.none⟩) 1 1).oneCell'=true from rfl)
   have b8:=aj
   clear bi hy
   have f5:=bx.out.has 5 _ rfl
   go_upto_region 26 with (first | (go_at_call 105;refine (bk.out _ (.slice a2 l.length ac) wt (HS.out.ext ak.out) (co.out.ext ak.out)).mono ?_;intro r w3 aq;obtain ⟨m,g,rfl,hg,j,aa,ap⟩:=aq;replace hg:=Jh hg))
   obtain ⟨am,lm,cm,bu⟩:∃ am lm cm,m=.slice am lm cm:=by
    by_cases h:g=0
    ·obtain ⟨a9,c9,h9,-⟩:=(aa h).open;exact ⟨_,_,_,h9⟩
    ·exact ⟨_,_,_,ap h⟩
   subst bu
   have a7:=Jh (bg.out.ext j)
   have b9:=Jh (a6.out.ext j)
   have au:=Jh aa
   have z5:=a7.out.has 5 _ rfl
   have r5:=a7.out.frozen 5
   have dy:=j.size
   clear aa ap f5
   go_upto_region 27 with fail
   have al:Blk _ w0.heap.size [.int .i64 2,.int .i64 sig,.int .i64 hi,.int .i64 lo,(.slice (some ⟨Bs,0,Option.none⟩) 1 1),.slice am lm cm].toArray 44:=a7.out.set 5 (.slice am lm cm)
   have ae:=Ay w3 w0.heap.size 5 (.slice am lm cm)
   have bt:=Jh (b9.out.grown ae (by omega))
   have bs:=Jh ((ak.out.trans j).grown ae (by omega))
   have cf:=ae.size
   have bp:=Jh al
   have br:=Jh ae
   have b6:=Jh j
   clear z5 r5 al ae j
   generalize w3.setCell _ _=w5 at *
   go_wp2_with (first | ((with_reducible show Jl 44);refine Aa rfl 44 _ rfl rfl (bp.out.has) Aw rfl ?_) | ((with_reducible show Js 44);have aw:=bt.out;refine Ac rfl 44 _ _ rfl aw rfl (cs:=[.int .i64 2,.int .i64 sig,.int .i64 hi,.int .i64 lo,(.slice (some ⟨Bs,0,Option.none⟩) 1 1),.slice am lm cm]) rfl Aw rfl rfl (by rfl) ?_;intro w9 av an) | ((with_reducible show bodyPost _ _ _ _ _ _);refine Hid.out ?_))
   refine Jh ?_
   refine Ak rfl rfl rfl av.has Aw rfl rfl ?_
   refine ⟨_,g,rfl,by rw [a5.out];exact hg.out,rfl,(by rfl),bs.out.grown an (by omega),fun h0=>?_⟩
   rw [a5.out]
   intro W hW
   have bc:Al (w0.heap.size+1) w3 W:=(Al.of_grown br.out (by omega)).trans ((Al.of_grown an (by omega)).trans (hW.mono (by omega)))
   exact ⟨_,_,rfl,bq.out W ((Al.of_ext b6.out).trans (bc.mono (by omega))),(au.out h0).sl (V:=VT) (At:=TAt) (fun _ _ _ _ _ h hv=>VT.at h hv) (bc.mono (by omega))⟩
  ·have g1:(g != 0)=true:=by rw [bne_iff_ne];omega
   have HG:=Jh (show g=q.2 by
    rw [HQ.out,a3.out];simp [Hy,szE,Da,szW,hy]
    exact (Kd ls ck l 0 g (by omega)).symm)
   clear hy
   go_wp2_with (first | ((with_reducible show Js 44);have aw:=a6.out;refine Ac rfl 44 _ _ rfl aw rfl (cs:=Nu) rfl Aw rfl rfl rfl ?_;intro w9 av an) | ((with_reducible show bodyPost _ _ _ _ _ _);refine Hid.out ?_))
   refine Jh ?_
   refine Ak rfl rfl rfl av.has Aw rfl rfl ?_
   exact ⟨_,g,rfl,HG.out,rfl,rfl,ak.out.grown an (by omega),fun h0=>absurd h0 (by omega)⟩
 by_cases o3:op=3
 ·subst o3
  have bb:e.length=1:=by
   have h:=b5.out
   rw [if_pos rfl] at h
   split at h
   ·cases h
   ·simp only [Bool.and_eq_true,decide_eq_true_eq] at h
    exact h.1
  obtain ⟨x,hex⟩:=List.length_eq_one_iff.1 bb
  have ah:0<e.length:=by omega
  obtain rfl:=cx.out ah
  obtain ⟨sx,az,be⟩:=Es.get (cy.out.mono fun x _ b o h=>EAt.ext' (Below.refl _ _) h) ah
  have bo:e[0]=x:=by simp [hex]
  rw [bo] at az be
  rw [Nat.zero_mul,Nat.add_zero] at az
  have ax:x∈e:=by rw [hex];simp
  have a3:=Jh hex
  have bl:=Jh (az.ext ao.out)
  have bv:VE w2 (x.cells sx) x:=⟨sx,rfl,be.ext ao.out⟩
  clear bo az be hex
  have HC:=Jh (dl.out x ax 0 _ w2 bv (by decide) (by decide))
  have d8:=Jh (dm.out x ax)
  have dj:=Jh bb
  clear bb bv ax
  have f4:=K4.out.has 4 _ rfl
  go_wp2_with (first | ((with_reducible show Jl 40);refine Aa rfl 40 _ rfl rfl (bl.out) Ah rfl ?_) | (go_at_call 144;refine HC.out.mono ?_;intro r w3 aq;obtain ⟨ab,g,rfl,h8,ar,j,ho⟩:=aq.open;clear aq;refine Hid.out ?_))
  refine Jh ?_
  have bd:=Ab w3 (.cells ab.toArray 40)
  have bz:=Jh (Has.alloc w3 ab 40)
  have ch:=Jh bd
  have aj:=Jh (j.trans bd)
  have dz:w3.heap.size<(w3.alloc (.cells ab.toArray 40)).heap.size:=by simp
  have ej:=j.size
  go_upto_region 17 with (first | ((with_reducible show Js 40);refine Ad rfl 40 _ _ rfl rfl (by first | rfl | simp) rfl Ah (h8) rfl (ar) ?_))
  generalize w3.alloc _=w4 at *
  clear bd f4
  rcases ho with ⟨rfl,y,hy,bi⟩ | ⟨hg,hy⟩
  ·have b3:=Jh bi
   have de:=d8.out y hy
   have a5:=Jh (show q=(⟨3,sig,hi,lo,[y],(Cm ls ck y.w 0 l).1⟩,(Cm ls ck y.w 0 l).2) by
    rw [HQ.out,a3.out];simp [Hy,szE,Da,szW,hy,Ao.hdW])
   have yw:w4.cell? ⟨w3.heap.size,1,Option.none⟩=some (.int .i64 y.w):=by
    obtain ⟨s9,h9,-⟩:=bi.ve
    have:=bz.out 1 (.int .i64 y.w) (by rw [h9];rfl)
    simpa using this
   have f5:=(K4.out.ext aj.out).has 5 _ rfl
   have d6:=Jh (d5.out (by trivial) y.w de.1 de.2 _ _ w4 (HS.out.ext (ao.out.trans aj.out)) (co.out.ext (ao.out.trans aj.out)))
   clear de bi hy
   go_upto_region 20 with (first | (go_at_call 175;refine d6.out.mono ?_;intro r w6 aq;obtain ⟨m,g2,rfl,c5,cn,aa,ap⟩:=aq;replace c5:=Jh c5))
   obtain ⟨am,lm,cm,bu⟩:∃ am lm cm,m=.slice am lm cm:=by
    by_cases h:g2=0
    ·obtain ⟨a9,c9,h9,-⟩:=(aa h).open;exact ⟨_,_,_,h9⟩
    ·exact ⟨_,_,_,ap h⟩
   subst bu
   have au:=Jh aa
   have bm:=Jh (aj.out.trans cn)
   have b7:=Jh (ch.out.trans cn)
   have dg:=Jh (bz.out.ext cn)
   have ei:=cn.size
   clear f5 yw aa ap cn
   go_wp2_with (first | ((with_reducible show Jl 40);refine Aa rfl 40 _ rfl rfl (dg.out) Ah h8 ?_) | ((with_reducible show Jw (Op.buildSlice _ _ _));refine B9 rfl _ _ rfl Qt rfl (cs:=ab) rfl h8 (by decide) ?_;refine Hid.out ?_))
   refine Jh ?_
   have ag:=Ab w6 (.cells ab.toArray 40)
   have al:=Blk.new w6 ab.toArray 40
   have cf:w6.heap.size<(w6.alloc (.cells ab.toArray 40)).heap.size:=by simp
   have dh:=bm.out.size
   obtain ⟨Bs,ba⟩:∃ Bs,w6.heap.size=Bs:=⟨_,rfl⟩
   rw [ba] at al ⊢
   have di:=Jh ba
   have ct:w2.heap.size<=Bs:=by omega
   clear ba
   generalize w6.alloc _=w5 at *
   have a8:=Jh (K8.out.ext (bm.out.trans ag))
   have z4:=a8.out.has 4 _ rfl
   have r4:=a8.out.frozen 4
   go_upto_region 21 with fail
   have a4:Blk _ w0.heap.size [.int .i64 3,.int .i64 sig,.int .i64 hi,.int .i64 lo,.slice (some ⟨Bs,0,Option.none⟩) 1 1,.slice a2 l.length ac].toArray 44:=a8.out.set 4 (.slice (some ⟨Bs,0,Option.none⟩) 1 1)
   have af:=Ay w5 w0.heap.size 4 (.slice (some ⟨Bs,0,Option.none⟩) 1 1)
   have bw:=Jh af
   have bf:=Jh ag
   have bg:=Jh a4
   have bx:=Jh ((K4.out.ext (bm.out.trans ag)).grown af (by omega))
   have a6:=Jh ((K6.out.ext (bm.out.trans ag)).grown af (by omega))
   have bj:=Jh (al.grown af (by omega))
   have ak:=Jh ((ao.out.trans (bm.out.trans ag)).grown af (by omega))
   have ci:=af.size
   have cw:=ag.size
   clear z4 r4 a4 af ag al
   generalize w5.setCell _ _=wt at *
   have bq:=Jh (show ∀ W,Al (w0.heap.size+1) wt W->Es W (.slice (some ⟨Bs,0,Option.none⟩) 1 1) [y] from fun W hW =>
    Z1 ((hW.blk bj.out (by omega)).has) (b3.out W ((Al.of_ext (b7.out.trans bf.out)).trans ((Al.of_grown bw.out (by omega)).trans (hW.mono (by omega))))))
   have b4:=Jh (show (Value.slice (some ⟨Bs,0,Option.none⟩) 1 1).oneCell'=true from rfl)
   have z5:=bg.out.has 5 _ rfl
   have r5:=bg.out.frozen 5
   go_upto_region 22 with fail
   have cu:Blk _ w0.heap.size [.int .i64 3,.int .i64 sig,.int .i64 hi,.int .i64 lo,.slice (some ⟨Bs,0,Option.none⟩) 1 1,.slice am lm cm].toArray 44:=bg.out.set 5 (.slice am lm cm)
   have ae:=Ay wt w0.heap.size 5 (.slice am lm cm)
   have bt:=Jh (a6.out.grown ae (by omega))
   have bs:=Jh (ak.out.grown ae (by omega))
   have ek:=ae.size
   have bp:=Jh cu
   have br:=Jh ae
   clear z5 r5 cu ae
   generalize wt.setCell _ _=w7 at *
   go_wp2_with (first | ((with_reducible show Jl 44);refine Aa rfl 44 _ rfl rfl (bp.out.has) Aw rfl ?_) | ((with_reducible show Js 44);have aw:=bt.out;refine Ac rfl 44 _ _ rfl aw rfl (cs:=[.int .i64 3,.int .i64 sig,.int .i64 hi,.int .i64 lo,.slice (some ⟨Bs,0,Option.none⟩) 1 1,.slice am lm cm]) rfl Aw rfl rfl (by rfl) ?_;intro w9 av an) | ((with_reducible show bodyPost _ _ _ _ _ _);refine Hid.out ?_))
   refine Jh ?_
   refine Ak rfl rfl rfl av.has Aw rfl rfl ?_
   refine ⟨_,g2,rfl,by rw [a5.out];exact c5.out,rfl,(by rfl),bs.out.grown an (by omega),fun h0=>?_⟩
   rw [a5.out]
   intro W hW
   have bc:Al (w0.heap.size+1) wt W:=(Al.of_grown br.out (by omega)).trans ((Al.of_grown an (by omega)).trans (hW.mono (by omega)))
   exact ⟨_,_,rfl,bq.out W bc,(au.out h0).sl (V:=VT) (At:=TAt) (fun _ _ _ _ _ h hv=>VT.at h hv) ((Al.of_ext bf.out).trans ((Al.of_grown bw.out (by omega)).trans (bc.mono (by omega))))⟩
  ·have g1:(g != 0)=true:=by rw [bne_iff_ne];omega
   have HG:=Jh (show g=q.2 by
    rw [HQ.out,a3.out];simp [Hy,szE,Da,szW,hy]
    exact (Kd ls ck l _ g (by omega)).symm)
   have a6:=Jh (K6.out.ext aj.out)
   have ak:=Jh (ao.out.trans aj.out)
   clear hy
   go_wp2_with (first | ((with_reducible show Js 44);have aw:=a6.out;refine Ac rfl 44 _ _ rfl aw rfl (cs:=Nu) rfl Aw rfl rfl rfl ?_;intro w9 av an) | ((with_reducible show bodyPost _ _ _ _ _ _);refine Hid.out ?_))
   refine Jh ?_
   refine Ak rfl rfl rfl av.has Aw rfl rfl ?_
   exact ⟨_,g,rfl,HG.out,rfl,rfl,ak.out.grown an (by omega),fun h0=>absurd h0 (by omega)⟩
 by_cases o1:op=1
 rotate_left
 ·exfalso
  have h:=b5.out
  rw [if_neg o3,if_neg o1,if_neg o2,if_neg o5] at h
  split at h<;>cases h
 subst o1
 clear o2 o3 o5
 have hh:e.length=1/\l.length=0:=by
  have h:=b5.out
  rw [if_neg (by decide:¬ (1:Int)=3),if_pos rfl] at h
  split at h
  ·cases h
  ·simp only [Bool.and_eq_true,decide_eq_true_eq] at h
   exact h.1
 have bb:=hh.1
 obtain ⟨i1,i2,i3,i4,i5⟩:=dk.out (by trivial)
 obtain ⟨ks,ea⟩:=Int.eq_ofNat_of_zero_le i1
 subst ea
 have dv:ks<ls.length:=by omega
 obtain ⟨x,hex⟩:=List.length_eq_one_iff.1 bb
 have ah:0<e.length:=by omega
 obtain rfl:=cx.out ah
 obtain ⟨sx,az,be⟩:=Es.get (cy.out.mono fun x _ b o h=>EAt.ext' (Below.refl _ _) h) ah
 have bo:e[0]=x:=by simp [hex]
 rw [bo] at az be
 rw [Nat.zero_mul,Nat.add_zero] at az
 have ax:x∈e:=by rw [hex];simp
 have a3:=Jh hex
 have bl:=Jh (az.ext ao.out)
 have bv:VE w2 (x.cells sx) x:=⟨sx,rfl,be.ext ao.out⟩
 clear bo az be hex
 have HC:=Jh (fun W (hx:Ext w2 W)=>dl.out x ax (hi-lo+1) _ W (bv.ext hx) (by omega) (by omega))
 have dj:=Jh bb
 have bk:=Jh (cz.out (by decide))
 obtain rfl:=d3.out (by omega)
 have du:=(Cq.get d7.out dv)
 have c6:Fg ls (ks:Int)=ls[ks].kind:=by simp [Fg,dv]
 obtain ⟨kd,ce⟩:∃ kd,ls[ks].kind=kd:=⟨_,rfl⟩
 have yk:w2.cell? ⟨b0,o0+ks*4+2,Option.none⟩=some (.int .i64 kd):=by
  have:=(du.ext ao.out) 2 _ rfl
  rw [ce] at this;exact this
 rw [ce] at c6
 obtain ⟨c4,dt⟩:∃ c,(kd==4)=c:=⟨_,rfl⟩
 obtain ⟨c1,dr⟩:∃ c,(kd==1)=c:=⟨_,rfl⟩
 obtain ⟨ca,cb⟩:∃ ca,((ck != c4)||c1)=ca:=⟨_,rfl⟩
 have cv:Da ls ck ⟨1,(ks:Int),hi,lo,e,l⟩ 0=if ca=true then 85 else 0:=by
  unfold Da
  simp only [c6]
  have e4:decide (kd=4)=c4:=by rw [<-dt,Bool.eq_iff_iff];simp
  have e1:kd=1↔c1=true:=by rw [<-dr];simp
  rw [e4,<-cb]
  congr 1
  rw [Bool.or_eq_true,bne_iff_ne,e1]
  simp [or_comm]
 have bh:=Jh cv
 have df:=Jh cb
 have f1:=K4.out.has 1 _ rfl
 clear bb hh ax du c6 ce cv cb i1 i2
 go_upto_region 6 with fail
 go_cut [39] from 32 to 39 (fun u wr=>u=.bool ca/\wr=w2)
 case first =>
  cases ck<;>cases c4<;>cases c1<;>(go_wp2_with fail;go_meet;exact ⟨by rw [<-df.out];rfl,rfl⟩)
 case rest =>
  obtain ⟨rfl,d1⟩:=hcut
  have d2:=d1.symm
  clear d1
  subst d2
  clear yk f1 dt dr
  cases ca
  rotate_left
  ·have HG:=Jh (show (85:Int)=q.2 by
    have h2:=bh.out
    rw [if_pos rfl] at h2
    rw [HQ.out,a3.out]
    rw [a3.out] at h2
    rw [h2]
    simp [Hy,szE]
    exact (Kd ls ck l _ 85 (by decide)).symm)
   go_wp2_with (first | ((with_reducible show Js 44);have aw:=K6.out;refine Ac rfl 44 _ _ rfl aw rfl (cs:=Nu) rfl Aw rfl rfl rfl ?_;intro w9 av an) | ((with_reducible show bodyPost _ _ _ _ _ _);refine Hid.out ?_))
   refine Jh ?_
   refine Ak rfl rfl rfl av.has Aw rfl rfl ?_
   exact ⟨_,85,rfl,HG.out,rfl,rfl,ao.out.grown an (by omega),fun h0=>absurd h0 (by decide)⟩
  ·go_upto_region 8 with fail
   go_cut [11,12] from 42 to 54 (fun u f wx=>Aaz w2 (Ao x (hi-lo+1)) u f wx)
   case first =>
    refine wp_region_held_drew (S:=fun W=>Blk W w.heap.size (T.cells ⟨1,(ks:Int),hi,lo,e,l⟩ (.slice (some ⟨b1,o1,Option.none⟩) e.length ai) (.slice a2 l.length ac)).toArray 44/\Has W b1 o1 (x.cells sx)/\Ext w2 W) (by kernel_rfl) ⟨K4.out.drew,bl.out.drew,Below.drew (Below.refl _ _)⟩ (fun hH=>?_)
    try simp only [J]
    (refine Ji 0 _ rfl hH ?_;try simp only [J])
    (refine Jt 1 (.slice (some ⟨b1,o1,Option.none⟩) e.length ai) rfl (yif_load1 rfl (by intro W hW;have y7:=hW.1.has 4 _ rfl;clear hW;go_simp)) hH ?_;try simp only [J])
    (refine Jk 2 (.pointer (some ⟨b1,o1,Option.none⟩)) rfl hH ?_;try simp only [J])
    (refine Jt 3 (.agg (x.cells sx).toArray) rfl (Ar rfl 40 _ rfl rfl (fun W hW=>hW.2.1) Ah rfl) hH ?_;try simp only [J])
    (refine Ji 4 _ rfl hH ?_;try simp only [J])
    (refine Jt 5 (.int .i64 hi) rfl (yif_load1 rfl (by intro W hW;have y7:=hW.1.has 2 _ rfl;clear hW;go_simp)) hH ?_;try simp only [J])
    (refine Ji 6 _ rfl hH ?_;try simp only [J])
    (refine Jt 7 (.int .i64 lo) rfl (yif_load1 rfl (by intro W hW;have y7:=hW.1.has 3 _ rfl;clear hW;go_simp)) hH ?_;try simp only [J])
    (refine Jt 8 (.int .i64 (hi-lo)) rfl (yif_load1 rfl (by intro W hW;clear hW;go_simp;rw [IntKind.wrap_i64];omega)) hH ?_;try simp only [J])
    (refine Jt 9 (.int .i64 (hi-lo+1)) rfl (yif_load1 rfl (by intro W hW;clear hW;go_simp;rw [IntKind.wrap_i64];omega)) hH ?_;try simp only [J])
    refine wpAnyH_ready (rs:=[10,14]) (by kernel_rfl) (by simp) ?_
    refine AllReadyH.cons rfl (fun K hK=>?_) (AllReadyH.cons rfl (fun K hK=>?_) AllReadyH.nil)
    ·go_simp
     refine (HC.out _ hH.2.2).mono ?_
     intro r w3 aq
     obtain ⟨ab,g,rfl,h8,ar,j,ho⟩:=aq.open
     refine hK.out _ _ ⟨hH.1.ext j,hH.2.1.ext j,hH.2.2.trans j⟩ (fun hH=>?_)
     clear hK K
     try simp only [J]
     (refine Ji 11 _ rfl hH ?_;try simp only [J])
     (refine Jk 12 (.agg ab.toArray) rfl hH ?_;try simp only [J])
     (refine Jk 13 (.int .i64 g) rfl hH ?_;try simp only [J])
     refine Jr 14 rfl fun K hK=>?_
     go_simp
     have hex:=Ab w3 (.cells A0.toArray 40)
     have c7:=Blk.new w3 A0.toArray 40
     refine hK.out _ _ ⟨hH.1.ext hex,hH.2.1.ext hex,hH.2.2.trans hex⟩ (fun hH=>?_)
     clear hK K
     try simp only [J]
     generalize w3.alloc _=wa at *
     refine Jr 15 rfl fun K hK=>?_
     refine D2 rfl 40 _ _ rfl c7 rfl (cs:=ab) rfl Ah h8 rfl ar ?_
     intro wz c2 cd
     have ed:Ext w3 wz:=hex.grown cd (Nat.le_refl _)
     have ay:Ext w2 wz:=hH.2.2.grown cd (by have:=j.size;rw [World.heap_drew] at this;omega)
     refine hK.out _ _ ⟨K4.out.ext ay,bl.out.ext ay,ay⟩ (fun hH=>?_)
     clear hK K
     try simp only [J]
     (refine Ji 16 _ rfl hH ?_;try simp only [J])
     refine Jz ?_
     go_wp2_with fail
     go_meet
     case rel=>exact ⟨_,ab,g,rfl,rfl,c2.has,h8,ar,ay,ho.imp (fun ⟨h1,y,h2,h3⟩=>⟨h1,y,h2,h3.ext ed⟩) id⟩
    ·go_simp
     have hex:=Ab w2 (.cells A0.toArray 40)
     have c7:=Blk.new w2 A0.toArray 40
     refine hK.out _ _ ⟨K4.out.ext hex.drew,bl.out.ext hex.drew,hex.drew⟩ (fun hH=>?_)
     clear hK K
     try simp only [J]
     refine Jr 10 rfl fun K hK=>?_
     go_simp
     refine (HC.out _ hH.2.2).mono ?_
     intro r w3 aq
     obtain ⟨ab,g,rfl,h8,ar,j,ho⟩:=aq.open
     refine hK.out _ _ ⟨hH.1.ext j,hH.2.1.ext j,hH.2.2.trans j⟩ (fun hH=>?_)
     clear hK K
     try simp only [J]
     (refine Ji 11 _ rfl hH ?_;try simp only [J])
     (refine Jk 12 (.agg ab.toArray) rfl hH ?_;try simp only [J])
     (refine Jk 13 (.int .i64 g) rfl hH ?_;try simp only [J])
     refine Jr 15 rfl fun K hK=>?_
     refine D2 rfl 40 _ _ rfl (c7.drew.ext j) rfl (cs:=ab) rfl Ah h8 rfl ar ?_
     intro wz c2 cd
     have ay:Ext w2 wz:=hH.2.2.grown cd (Nat.le_refl _)
     refine hK.out _ _ ⟨K4.out.ext ay,bl.out.ext ay,ay⟩ (fun hH=>?_)
     clear hK K
     try simp only [J]
     (refine Ji 16 _ rfl hH ?_;try simp only [J])
     refine Jz ?_
     go_wp2_with fail
     go_meet
     case rel=>exact ⟨_,ab,g,rfl,rfl,c2.has,h8,ar,ay,ho.imp (fun ⟨h1,y,h2,h3⟩=>⟨h1,y,h2,(h3.since (Al.of_grown cd (by simp [World.size_alloc,World.heap_drew]))).mono (by simp [World.size_alloc,World.heap_drew])⟩) id⟩
   case rest =>
    obtain ⟨Bq,ab,g,rfl,rfl,cc,h8,ar,bd,ho⟩:=hcut
    obtain ⟨w4,d0⟩:∃ x,x=wc:=⟨_,rfl⟩
    rw [<-d0] at cc bd ho ⊢
    clear d0
    have bz:=Jh cc
    have aj:=Jh bd
    clear cc bd
    go_wp2_with (first | ((with_reducible show Jl 40);refine Aa rfl 40 _ rfl rfl (bz.out) Ah h8 ?_) | ((with_reducible show Jw (Op.buildSlice _ _ _));refine B9 rfl _ _ rfl Qt rfl (cs:=ab) rfl h8 (by decide) ?_;refine Hid.out ?_))
    refine Jh ?_
    have ag:=Ab w4 (.cells ab.toArray 40)
    have al:=Blk.new w4 ab.toArray 40
    have cf:w4.heap.size<(w4.alloc (.cells ab.toArray 40)).heap.size:=by simp
    have dh:=aj.out.size
    obtain ⟨Bs,ba⟩:∃ Bs,w4.heap.size=Bs:=⟨_,rfl⟩
    rw [ba] at al ⊢
    have di:=Jh ba
    have ct:w2.heap.size<=Bs:=by omega
    clear ba
    generalize w4.alloc _=w5 at *
    have a8:=Jh (K8.out.ext (aj.out.trans ag))
    have z4:=a8.out.has 4 _ rfl
    have r4:=a8.out.frozen 4
    go_upto_region 10 with fail
    have a4:Blk _ w0.heap.size [.int .i64 1,.int .i64 (ks:Int),.int .i64 hi,.int .i64 lo,.slice (some ⟨Bs,0,Option.none⟩) 1 1,.slice a2 l.length ac].toArray 44:=a8.out.set 4 (.slice (some ⟨Bs,0,Option.none⟩) 1 1)
    have af:=Ay w5 w0.heap.size 4 (.slice (some ⟨Bs,0,Option.none⟩) 1 1)
    have bw:=Jh af
    have bf:=Jh ag
    have bg:=Jh a4
    have bx:=Jh ((K4.out.ext (aj.out.trans ag)).grown af (by omega))
    have a6:=Jh ((K6.out.ext (aj.out.trans ag)).grown af (by omega))
    have bj:=Jh (al.grown af (by omega))
    have ak:=Jh ((ao.out.trans (aj.out.trans ag)).grown af (by omega))
    have ci:=af.size
    have cw:=ag.size
    clear z4 r4 a4 af ag al
    generalize w5.setCell _ _=wt at *
    rcases ho with ⟨rfl,y,hy,bi⟩ | ⟨hg,hy⟩
    ·have b3:=Jh bi
     have a5:=Jh (show q=(⟨1,(ks:Int),hi,lo,[y],(Cm ls ck 0 0 l).1⟩,(Cm ls ck 0 0 l).2) by
      have h2:=bh.out
      rw [if_neg (by decide)] at h2
      rw [HQ.out,a3.out]
      rw [a3.out] at h2
      rw [h2]
      simp [Hy,szE,szW,hy])
     have bq:=Jh (show ∀ W,Al (w0.heap.size+1) wt W->Es W (.slice (some ⟨Bs,0,Option.none⟩) 1 1) [y] from fun W hW =>
      Z1 ((hW.blk bj.out (by omega)).has) (b3.out W ((Al.of_ext (bf.out)).trans ((Al.of_grown bw.out (by omega)).trans (hW.mono (by omega))))))
     have b4:=Jh (show (Value.slice (some ⟨Bs,0,Option.none⟩) 1 1).oneCell'=true from rfl)
     have b8:=aj
     clear bi hy
     have f5:=bx.out.has 5 _ rfl
     go_upto_region 26 with (first | (go_at_call 105;refine (bk.out _ (.slice a2 l.length ac) wt (HS.out.ext ak.out) (co.out.ext ak.out)).mono ?_;intro r w3 aq;obtain ⟨m,g,rfl,hg,j,aa,ap⟩:=aq;replace hg:=Jh hg))
     obtain ⟨am,lm,cm,bu⟩:∃ am lm cm,m=.slice am lm cm:=by
      by_cases h:g=0
      ·obtain ⟨a9,c9,h9,-⟩:=(aa h).open;exact ⟨_,_,_,h9⟩
      ·exact ⟨_,_,_,ap h⟩
     subst bu
     have a7:=Jh (bg.out.ext j)
     have b9:=Jh (a6.out.ext j)
     have au:=Jh aa
     have z5:=a7.out.has 5 _ rfl
     have r5:=a7.out.frozen 5
     have dy:=j.size
     clear aa ap f5
     go_upto_region 27 with fail
     have al:Blk _ w0.heap.size [.int .i64 1,.int .i64 (ks:Int),.int .i64 hi,.int .i64 lo,(.slice (some ⟨Bs,0,Option.none⟩) 1 1),.slice am lm cm].toArray 44:=a7.out.set 5 (.slice am lm cm)
     have ae:=Ay w3 w0.heap.size 5 (.slice am lm cm)
     have bt:=Jh (b9.out.grown ae (by omega))
     have bs:=Jh ((ak.out.trans j).grown ae (by omega))
     have cf:=ae.size
     have bp:=Jh al
     have br:=Jh ae
     have b6:=Jh j
     clear z5 r5 al ae j
     generalize w3.setCell _ _=w5 at *
     go_wp2_with (first | ((with_reducible show Jl 44);refine Aa rfl 44 _ rfl rfl (bp.out.has) Aw rfl ?_) | ((with_reducible show Js 44);have aw:=bt.out;refine Ac rfl 44 _ _ rfl aw rfl (cs:=[.int .i64 1,.int .i64 (ks:Int),.int .i64 hi,.int .i64 lo,(.slice (some ⟨Bs,0,Option.none⟩) 1 1),.slice am lm cm]) rfl Aw rfl rfl (by rfl) ?_;intro w9 av an) | ((with_reducible show bodyPost _ _ _ _ _ _);refine Hid.out ?_))
     refine Jh ?_
     refine Ak rfl rfl rfl av.has Aw rfl rfl ?_
     refine ⟨_,g,rfl,by rw [a5.out];exact hg.out,rfl,(by rfl),bs.out.grown an (by omega),fun h0=>?_⟩
     rw [a5.out]
     intro W hW
     have bc:Al (w0.heap.size+1) w3 W:=(Al.of_grown br.out (by omega)).trans ((Al.of_grown an (by omega)).trans (hW.mono (by omega)))
     exact ⟨_,_,rfl,bq.out W ((Al.of_ext b6.out).trans (bc.mono (by omega))),(au.out h0).sl (V:=VT) (At:=TAt) (fun _ _ _ _ _ h hv=>VT.at h hv) (bc.mono (by omega))⟩
    ·have g1:(g != 0)=true:=by rw [bne_iff_ne];omega
     have HG:=Jh (show g=q.2 by
      have h2:=bh.out
      rw [if_neg (by decide)] at h2
      rw [HQ.out,a3.out]
      rw [a3.out] at h2
      rw [h2]
      simp [Hy,szE,szW,hy]
      exact (Kd ls ck l 0 g (by omega)).symm)
     clear hy
     go_wp2_with (first | ((with_reducible show Js 44);have aw:=a6.out;refine Ac rfl 44 _ _ rfl aw rfl (cs:=Nu) rfl Aw rfl rfl rfl ?_;intro w9 av an) | ((with_reducible show bodyPost _ _ _ _ _ _);refine Hid.out ?_))
     refine Jh ?_
     refine Ak rfl rfl rfl av.has Aw rfl rfl ?_
     exact ⟨_,g,rfl,HG.out,rfl,rfl,ak.out.grown an (by omega),fun h0=>absurd h0 (by omega)⟩
theorem Agt {e y:E} (h:Ao e 0=.ok y):y.w=Bw (own e) 32:=by
 rw [Gv] at h
 have h0:Bw (if (0:Int) = -1 then 1 else 0) (Bw (own e) 32)=Bw (own e) 32:=by simp [Bw]
 rw [h0,if_neg (by omega)] at h
 split at h
 ·split at h
  ·injection h with h;rw [<-h]
  ·cases h
 ·split at h
  ·cases h
  ·split at h
   ·cases h
   ·split at h
    ·cases h
    ·injection h with h;rw [<-h]
theorem Agf (ls:List Ai) (ab:∀ x∈ls,x.w<=64) (ck:Bool) (t:T) :
  (An ls t=true->t.wf->Aq t<=1048576->Ahb ls ck t)/\(t.l.all (An ls)=true->(∀ x∈t.l,x.wf)->Ap Aq t.l<=1048576->S0 ls ck t.l):=by
 induction t using T.ind with
 | h t ih =>
  have aa:t.l.all (An ls)=true->(∀ x∈t.l,x.wf)->Ap Aq t.l<=1048576->S0 ls ck t.l:=by
   intro h1 h2 h3
   refine Aat ls ck t.l (fun x hx=>(ih x hx).1 (List.all_eq_true.1 h1 x hx) (h2 x hx) (by have:=Bf Aq t.l x hx;omega)) ?_
   have:=A8 Aq t.l (fun x _=>by rw [Ca];omega)
   omega
  refine ⟨?_,aa⟩
  intro j ak ao
  obtain ⟨-,-,-,-,aj,ae⟩:=(T.wf_iff t).1 ak
  have hn:=Ca t
  have u:∀ x∈t.e,A7 ls x=true:=by
   intro x hx
   rw [Ff] at j
   split at j
   ·cases j
   ·rename_i h0
    have h1:(t.e.any fun x=>!A7 ls x)=false:=by
     cases hh:(t.e.any fun x=>!A7 ls x)
     ·rfl
     ·exfalso;apply h0;rw [hh];rfl
    have:=List.any_eq_false.1 h1 x hx
    simpa using this
  have af:∀ x∈t.e,nodes x<=1048576:=fun x hx=>by have:=Bf nodes t.e x hx;omega
  refine Acc ls ab ck t ⟨j,ak,fun x hx=>Hq ab x (u x hx) (aj x hx) (af x hx),fun x hx cs w hv=>Qw ab x (u x hx) (aj x hx) (af x hx) cs w hv,?_,?_,?_⟩
  ·intro x hx y hy
   have h1:=Agt hy
   have h2:=Ku x (C8 ls ab x (u x hx))
   have h3:=af x hx
   rw [h1];unfold Bw
   split<;>omega
  ·intro h3
   refine aa ?_ ae (by omega)
   rw [Ff] at j
   split at j
   ·cases j
   ·try rw [if_neg h3] at j
    split at j
    ·simp only [Bool.and_eq_true,decide_eq_true_eq] at j
     rw [List.eq_nil_of_length_eq_zero j.1.2];rfl
    ·split at j
     ·rw [Bool.and_eq_true] at j;exact j.2
     ·split at j
      ·rw [Bool.and_eq_true] at j;exact j.2
      ·cases j
  ·intro h3 wd al am s0 s w hS hT
   rw [Ff] at j
   split at j
   ·cases j
   ·try rw [if_pos h3] at j
    simp only [Bool.and_eq_true,decide_eq_true_eq] at j
    have ac:∀ x∈t.l,An.armT ls x=true:=by
     intro x hx
     obtain ⟨k,hk,rfl⟩:=List.getElem_of_mem hx
     exact ((Qu ls t.l).1 j.2.1 k hk).2
    have an:=A8 Aq t.l (fun x _=>by rw [Ca];omega)
    have ag:∀ x∈t.l,Aq x<=1048576:=fun x hx=>by have:=Bf Aq t.l x hx;omega
    have ai:∀ x∈t.l,(∀ y∈x.e,A7 ls y=true)/\x.l.all (An ls)=true:=by
     intro x hx
     have h:=ac x hx
     rw [An.armT_eq] at h
     simp only [Bool.and_eq_true,decide_eq_true_eq] at h
     refine ⟨fun y hy=>?_,h.2⟩
     have:=List.all_eq_true.1 h.1.2 y hy
     simp only [Bool.and_eq_true] at this
     exact this.2
    refine Xy ls ck wd al am t.l ac ?_ ?_ (by omega) ?_ s0 s w hS hT
    ·intro x hx y hy
     have h1:=ag x hx
     rw [Ca] at h1
     have h2:=Bf nodes x.e y hy
     exact Hq ab y ((ai x hx).1 y hy) (((T.wf_iff x).1 (ae x hx)).2.2.2.2.1 y hy) (by omega)
    ·intro x hx
     have h1:=ag x hx
     rw [Ca] at h1
     exact (ih x hx).2 (ai x hx).2 ((T.wf_iff x).1 (ae x hx)).2.2.2.2.2 (by omega)
    ·intro x hx
     have h1:=ag x hx
     rw [Ca] at h1
     have:=A8 nodes x.e (fun x _=>Gh x)
     omega
theorem Y7 (ls:List Ai) (j:∀ x∈ls,x.w<=64) (ck:Bool) (l:List T) (h1:l.all (An ls)=true) (h2:∀ x∈l,x.wf) (h3:Ap Aq l<=1048576):S0 ls ck l :=
 (Agf ls j ck ⟨5,0,0,0,[],l⟩).2 h1 h2 h3
/-! ### how large a design may be -/
theorem U7 (d:Bb) (v:Value) (w:World) (h:Ck w v d) (hb:C3 d<=1048576) (hl:d.signals.length<=1048576) :
  Calls Tryz.prog 102 #[v] w fun r w'=>r=.returned (.bool (Lb d))/\Ext w w':=by
 have HF:=Jh h
 have aq:=Jh (fun W (hx:Ext w W)=>M2 d v W (h.ext hx) hb)
 obtain ⟨sv,pv,cv,rfl,hS,hP,hC⟩:=h
 obtain ⟨xs,bs,os,af,e1,av,aw,an,ao⟩:=hS.open
 obtain ⟨ap,bp,op,ae,e2,-,-,-,-⟩:=hP.open
 obtain ⟨ac,bc,oc,ab,e3,-,-,-,-⟩:=hC.open
 subst e1;subst e2;subst e3
 have au:=Jh ao
 have ar:=Jh an
 have ai:=Xx d.signals
 have hm:=Oc d
 have hx:=Ab w (.cells [.slice xs d.signals.length af,.slice ap d.procs.length ae,.slice ac d.checks.length ab].toArray 26)
 have al:=Has.alloc w [.slice xs d.signals.length af,.slice ap d.procs.length ae,.slice ac d.checks.length ab] 26
 have HM:=Jh (show Lb d=(decide (d.signals.length<=512)&&decide (d.procs.length<=1024)&&decide (K5 d.signals<=4096)&&(decide (C3 d<=65536)&&decide (Ig d<=64))) by
  unfold Lb
  have:=Abn d.signals 0
  rw [Nat.zero_add,Nat.zero_add] at this
  rw [show decide (Id d.signals<=4096)=decide (K5 d.signals<=4096) from decide_eq_decide.2 this.symm])
 clear hS hP hC ao an
 go_enter Tryz.func102,Tryz.ntmps102
 go_upto_region 1 with fail
 generalize w.alloc _=w0 at *
 have HX:=Jh hx
 have HB:=Jh al
 clear hx al
 go_wp2_with fail
 go_loopw [3,4] (fun n i wr=>∃ k:Nat,k<=d.signals.length/\i=.int .i64 k/\n=.int .i64 ((K5 (d.signals.take k):Nat):Int)/\Ext w0 wr) (fun _ i _=>d.signals.length-(intOf i).toNat)
 case atStart=>exact ⟨0,Nat.zero_le _,rfl,rfl,Below.refl _ _⟩
 case round =>
  obtain ⟨k,hk,rfl,rfl,hB⟩:=hrel
  have j:=Jh hB
  have y0:=(HB.out.ext hB) 0 _ rfl
  rw [Nat.add_zero] at y0
  clear hB
  by_cases am:k<d.signals.length
  ·have he:=Cq.get (au.out.mono fun x _ b o h=>C6.ext' (HX.out.trans j.out) h) am
   obtain rfl:=ar.out (by omega)
   have y1:=he 1 _ rfl
   have ak:=Xx (d.signals.take k)
   rw [List.length_take] at ak
   have ag:=Jh (show K5 (d.signals.take (k+1))=K5 (d.signals.take k)+(min (max d.signals[k].w 0) 5000).toNat by
    unfold K5;rw [Ct _ _ _ am])
   obtain ⟨x,hx⟩:∃ x,d.signals[k]=x:=⟨_,rfl⟩
   rw [hx] at y1 ag
   clear hx he
   obtain ⟨nb,u⟩:∃ nb,K5 (d.signals.take k)=nb:=⟨_,rfl⟩
   rw [u] at ag ak ⊢
   clear u
   go_wp2_with fail
   go_roundw
   case rel=>exact ⟨k+1,by omega,by go_num,by rw [ag.out];congr 1;omega,j.out⟩
   case measure=>simp [intOf];omega
  ·obtain rfl:k=d.signals.length:=by omega
   rw [List.take_length]
   have aa:=Jh (HB.out.ext j.out)
   have y1:=aa.out 1 _ rfl
   obtain ⟨nb,u⟩:∃ nb,K5 d.signals=nb:=⟨_,rfl⟩
   rw [u] at ai HM ⊢
   clear u
   go_upto_region 7 with (first | ((with_reducible show Jl 26);refine Aa rfl 26 _ rfl rfl (aa.out) Aj rfl ?_) | (go_at_call 34;refine (aq.out _ (HX.out.trans j.out)).mono ?_;rintro r w1 ⟨rfl,aj⟩))
   have y0:=(aa.out.ext aj) 0 _ rfl
   rw [Nat.add_zero] at y0
   have y1:=(aa.out.ext aj) 1 _ rfl
   go_wp2_with fail
   all_goals go_ret
   all_goals exact ⟨Af (by rw [HM.out];refine Bool.eq_iff_iff.2 ?_;simp;omega),HX.out.trans (j.out.trans aj)⟩
end Go.Proofs.YtbliplladmamoaaGreat
