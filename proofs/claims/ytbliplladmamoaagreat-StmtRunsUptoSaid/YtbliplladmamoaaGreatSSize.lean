/- Laws and walks that a claim of this seat leans on: Size. -/
import Derived.Test.YtbliplladmamoaaGreatS06
import Derived.Test.YtbliplladmamoaaGreatS07
import Derived.Test.YtbliplladmamoaaGreatS03
import Derived.Test.YtbliplladmamoaaGreatS00
set_option maxRecDepth 100000
set_option maxHeartbeats 8000000
set_option linter.all false
namespace Go.Proofs.YtbliplladmamoaaGreat
open Go.RowKit
abbrev A0:List Value:=[.int .i64 0,.int .i64 0,.int .u64 0,.int .i64 0,.int .i64 0,.int .i64 0,.int .i64 0,.slice Option.none 0 0]
theorem Ak {P:Program} {fn:Func} {R:Ending->World->Prop} {a:Act} {w:World} {p q:Tmp} {ty:TypeId} {B:Nat} {cs:List Value} {v:Value} {n:Nat} (hf:fn.results = #[.cell p ty,.tmp q])
  (hp:a.tmps.getD p undef=.pointer (some ⟨B,0,none⟩)) (hq:a.tmps.getD q undef=v) (hb:Has w B 0 cs) (hu:Agg P ty n) (hn:cs.length=n) (hd:a.defers=[]) (h:R (.returned (.tuple #[.agg cs.toArray,v])) w):bodyPost P fn R .ret a w:=by
 subst hn
 subst hq
 refine bodyPost_ret ?_ hd h
 have j:a.tmps[p]?.getD undef=.pointer (some ⟨B,0,none⟩):=by simpa using hp
 simp [results,hf,j,asAddr,Dj w B 0 ty cs hb hu]
def Dc (w:World) (o:Except Int E) (r:Ending) (w':World):Prop :=
 (∃ g,o=.error g/\(90<=g/\g<=92)/\r=.returned (.tuple #[.agg A0.toArray,.int .i64 g])/\Ext w w') \/
 (∃ y cs,o=.ok y/\r=.returned (.tuple #[.agg cs.toArray,.int .i64 0])/\FE w.heap.size w' cs y/\Ext w w')
theorem Dc.open {w w':World} {o:Except Int E} {r:Ending} (h:Dc w o r w'):∃ cs g,r=.returned (.tuple #[.agg cs.toArray,.int .i64 g])/\cs.length=8/\cs.all (·.oneCell')=true/\Ext w w' /\
  ((g=0/\∃ y,o=.ok y/\FE w.heap.size w' cs y)\/((90<=g/\g<=92)/\o=.error g)):=by
 rcases h with ⟨g,ho,hg,rfl,hx⟩ | ⟨y,cs,ho,rfl,hf,hx⟩
 ·exact ⟨_,_,rfl,rfl,rfl,hx,.inr ⟨hg,ho⟩⟩
 ·exact ⟨_,_,rfl,(by obtain ⟨s,rfl,-⟩:=hf.ve;rfl),hf.ve.one,hx,.inl ⟨rfl,y,ho,hf⟩⟩
def Aaz (wb:World) (o:Except Int E) (u f:Value) (wc:World):Prop:=∃ B cs g,u=.pointer (some ⟨B,0,none⟩)/\f=.int .i64 g/\Has wc B 0 cs/\cs.length=8/\cs.all (·.oneCell')=true/\Ext wb wc /\
 ((g=0/\∃ y,o=.ok y/\FE wb.heap.size wc cs y)\/((90<=g/\g<=92)/\o=.error g))
def N1 (x:E):Prop:=∀ (wd:Int) (cs:List Value) (w:World),VE w cs x->x.wf->F1 x->nodes x<=1048576 ->
 Calls Tryz.prog 98 #[.agg cs.toArray,.int .i64 wd] w (Dc w (Ao x wd))
theorem Ago {z:List Value} (n:Nat):∀ i:Nat,(List.replicate n z).flatten[i]? = if i<n*z.length then z[i%z.length]? else none:=by
 induction n with
 | zero=>intro i;simp
 | succ n ih =>
  intro i
  rw [List.replicate_succ,List.flatten_cons]
  by_cases h:i<z.length
  ·rw [List.getElem?_append_left h,Nat.mod_eq_of_lt h,if_pos (by rw [Nat.succ_mul];omega)]
  ·rw [List.getElem?_append_right (by omega),ih,Nat.mod_eq_sub_mod (by omega:i ≥ z.length)]
   by_cases h2:i-z.length<n*z.length
   ·rw [if_pos h2,if_pos (by rw [Nat.succ_mul];omega)]
   ·rw [if_neg h2,if_neg (by rw [Nat.succ_mul];omega)]
theorem Yp (n:Nat):madeCells (Value.cells (.agg A0.toArray)) (n*8)=(List.replicate n A0).flatten.toArray:=by
 apply Array.ext_getElem?
 intro i
 have hR:(List.replicate n A0).flatten.toArray[i]? = if i<n*A0.length then A0[i%A0.length]? else none:=by rw [List.getElem?_toArray,Ago]
 rw [hR]
 show (madeCells A0.toArray (n*8))[i]? = _
 simp only [madeCells,Array.getElem?_map,Array.getElem?_range]
 by_cases h:i<n*8
 ·have h8:i%8<A0.length:=Nat.mod_lt _ (by decide)
  simp [h,List.getElem?_eq_getElem h8]
 ·simp [h]
structure G4 (w7:World) (M:Nat) (l:List E) (ps:List Int) (k:Nat) (css:List (List Value)) (r:List E) (wr:World):Prop where
 le:k<=l.length
 len:css.length=k
 cells:∀ cs∈css,cs.length=8
 model:Ao.sizeL (l.take k) ps=.ok r
 rlen:r.length=k
 each:∀ i (h:i<css.length) (h':i<r.length),FE (M+1) wr css[i] r[i]
 blk:Blk wr M (css.flatten++(List.replicate (l.length-k) A0).flatten).toArray 40
 below:Below M w7 wr
theorem G4.zero {w7:World} {M:Nat} {l:List E} {ps:List Int} (h:Blk w7 M (List.replicate l.length A0).flatten.toArray 40):G4 w7 M l ps 0 [] [] w7 :=
 ⟨Nat.zero_le _,rfl,(by simp),rfl,rfl,(by simp),(by simpa using h),Below.refl _ _⟩
theorem Ae9 {n k:Nat} (h:k<n):(List.replicate (n-k) A0).flatten=A0++(List.replicate (n-(k+1)) A0).flatten:=by
 obtain ⟨m,hm⟩:∃ m,n-k=m+1:=⟨n-k-1,by omega⟩
 rw [hm,show n-(k+1)=m by omega,List.replicate_succ,List.flatten_cons]
theorem G4.step {w7:World} {M:Nat} {l:List E} {ps:List Int} {k:Nat} {css:List (List Value)} {r:List E} {wr wc wx:World} (h:G4 w7 M l ps k css r wr) (hk:k<l.length) {y:E} {cs:List Value}
  (hy:Ao l[k] (ps[k]?.getD 0)=.ok y) (hf:FE (M+1) wc cs y) (hx:Ext wr wc) (hb:Blk wx M (css.flatten++cs++(List.replicate (l.length-(k+1)) A0).flatten).toArray 40) (hg:wc.grownBy wx (some M)) :
  G4 w7 M l ps (k+1) (css++[cs]) (r++[y]) wx:=by
 have h1:Al (M+1) wr wx:=(Al.of_ext hx).trans (Al.of_grown hg (by omega))
 have hM:=h.blk.lt
 refine ⟨hk,by simp [h.len],?_,by rw [Rr _ _ _ hk,h.model,hy],by simp [h.rlen],?_,by simpa [List.append_assoc] using hb,?_⟩
 ·intro c hc
  rcases List.mem_append.1 hc with hc | hc
  ·exact h.cells c hc
  ·obtain rfl:=List.mem_singleton.1 hc
   obtain ⟨s,hs,-⟩:=hf.ve
   rw [hs];rfl
 ·intro i hi u
  have hl:=h.len
  have j:=h.rlen
  by_cases aa:i<k
  ·rw [List.getElem_append_left (by omega),List.getElem_append_left (by omega)]
   exact (h.each i (by omega) (by omega)).since h1
  ·have:i=k:=by simp at hi;omega
   rw [List.getElem_append_right (by omega),List.getElem_append_right (by omega)]
   simp only [hl,j,this,Nat.sub_self,Jb]
   exact hf.since (Al.of_grown hg (by omega))
 ·exact Below.grown (Below.trans h.below (Below.mono hx (by omega))) hg (by have:=hx.size;omega) (fun k hk=>by cases hk;exact Nat.le_refl _)
theorem G4.head {w7:World} {M:Nat} {l:List E} {ps:List Int} {k:Nat} {css:List (List Value)} {r:List E} {wr:World} (h:G4 w7 M l ps k css r wr) (hk:1<=k):wr.cell? ⟨M,1,none⟩=some (.int .i64 (Ao.hdW r)):=by
 obtain ⟨-,h2,-,-,h5,h6,h7,-⟩:=h
 cases css with
 | nil=>simp at h2;omega
 | cons c css =>
  cases r with
  | nil=>simp at h5;omega
  | cons y r =>
   obtain ⟨s,hs,-⟩:=(h6 0 (by simp) (by simp)).ve
   simp only [Jb] at hs
   rw [h7.cell,hs]
   rfl
theorem G4.es {w7:World} {M:Nat} {l:List E} {ps:List Int} {css:List (List Value)} {r:List E} {wr W:World} (h:G4 w7 M l ps l.length css r wr) (hs:Al M wr W) (hl:l.length<=1048576) :
  Es W (.slice (some ⟨M,0,none⟩) l.length l.length) r:=by
 obtain ⟨-,h2,-,-,h5,h6,h7,-⟩:=h
 refine ⟨M,0,⟨_,_,by rw [h5],by omega,by simp only [maxLen];omega,fun _=>rfl⟩,?_⟩
 have hb:=hs.blk h7 (Nat.le_refl _)
 rw [Nat.sub_self,List.replicate_zero,List.flatten_nil] at hb
 exact Abv r css [] W M [] _ (by simpa using hb) (by omega) (fun i hi j=>h6 i hi j W (hs.mono (by omega)))
def Aik (w0:World) (wd q:Int) (u:Value) (wr:World):Prop:=¬ (wd = -1/\1<q)/\u=.int .i64 (if wd = -1 then 1 else wd)/\Ext w0 wr
theorem Acp (e:E) (ih:∀ x∈e.l,N1 x):N1 e:=by
 intro wd cs w hV bx ce hb
 have IH:=Jh ih
 clear ih
 have a0:=Jh ce
 have ct:=Jh bx
 have b0:=Jh hb
 have bo:=Jh ((E.wf_iff e).1 bx).2.2.1
 obtain ⟨s,rfl,hs⟩:=hV
 have ay:=Jh (Gv e wd)
 have ca:=A8 nodes e.l (fun x _=>Gh x)
 have c2:=C7 e
 obtain ⟨a,b,o,cap,ci,cz,c8,ha,hr⟩:=hs.open
 have bk:=Jh hs
 have HR:=Jh hr
 have HA:=Jh ha
 obtain ⟨op,ae,v,sig,hi,lo,n,l⟩:=e
 simp only at ci cz ay bk HR HA IH ca c2 bo
 subst ci
 clear hr ha hs ce bx
 have HX:=(Ab w (.cells (E.cells ⟨op,ae,v,sig,hi,lo,n,l⟩ (.slice a l.length cap)).toArray 40)).alloc (.cells A0.toArray 40)
 have bz:=(Blk.new w (E.cells ⟨op,ae,v,sig,hi,lo,n,l⟩ (.slice a l.length cap)).toArray 40).alloc (.cells A0.toArray 40)
 have bj:=Blk.new (w.alloc (.cells (E.cells ⟨op,ae,v,sig,hi,lo,n,l⟩ (.slice a l.length cap)).toArray 40)) A0.toArray 40
 simp only [World.size_alloc] at bj
 go_enter Tryz.func98,Tryz.ntmps98
 go_upto_if 14 with (fail)
 generalize (w.alloc _).alloc _=w0 at *
 have K0:=Jh bz
 have K1:=Jh bj
 clear bz bj
 have ba:∀ W,Hid (Ext w0 W->Calls Tryz.prog 131 #[.agg (E.cells ⟨op,ae,v,sig,hi,lo,n,l⟩ (.slice a l.length cap)).toArray] W fun r w'=>r=.returned (.int .i64 (own ⟨op,ae,v,sig,hi,lo,n,l⟩))/\Ext W w') :=
  fun W=>Jh fun hx=>O9 _ _ W ⟨_,rfl,bk.out.ext (HX.trans hx)⟩ a0.out b0.out
 have cr:∀ w2 W,Hid (Ext w0 W->Calls Tryz.prog 133 #[.agg (E.cells ⟨op,ae,v,sig,hi,lo,n,l⟩ (.slice a l.length cap)).toArray,.int .i64 w2] W (Xn W l.length (Bo ⟨op,ae,v,sig,hi,lo,n,l⟩ w2))) :=
  fun w2 W=>Jh fun hx=>V6 ⟨op,ae,v,sig,hi,lo,n,l⟩ w2 _ W ⟨_,rfl,bk.out.ext (HX.trans hx)⟩ a0.out b0.out
 obtain ⟨q,hq⟩:∃ q,own ⟨op,ae,v,sig,hi,lo,n,l⟩=q:=⟨_,rfl⟩
 rw [hq] at ay
 simp only [hq] at ba
 clear hq
 go_cut [1] (fun u wr=>Aik w0 wd q u wr)
 case first =>
  by_cases h1:wd = -1
  ·by_cases h2:1<q
   ·have ap:=ay.out
    rw [if_pos ⟨h1,h2⟩] at ap
    have aw:=Jh ap
    clear ap ay
    have H1:=Jh h1
    have g1:(wd == -1)=true:=by rw [beq_iff_eq];exact h1
    clear h1
    go_wp2_with (first | ((with_reducible show Jl 40);refine Aa rfl 40 _ rfl rfl (K0.out.has) Ah rfl ?_) | (go_at_call 131;refine ((ba _).out (Below.refl _ _)).mono ?_;rintro r w4 ⟨rfl,au⟩) | (((with_reducible show Js 40);refine Ac rfl 40 _ _ rfl (K1.out.ext au) rfl (cs:=A0) rfl Ah rfl rfl rfl ?_;intro w2 ac af)))
    refine Ak rfl rfl rfl ac.has Ah rfl rfl (.inl ⟨91,aw.out,by omega,rfl,(HX.trans au).grown af (by omega)⟩)
   ·have H1:=Jh h1
    have g1:(wd == -1)=true:=by rw [beq_iff_eq];exact h1
    clear h1
    go_wp2_with (first | ((with_reducible show Jl 40);refine Aa rfl 40 _ rfl rfl (K0.out.has) Ah rfl ?_) | (go_at_call 131;refine ((ba _).out (Below.refl _ _)).mono ?_;rintro r w4 ⟨rfl,au⟩))
    go_meet
    case rel=>exact ⟨fun h=>absurd h.2 (by omega),by rw [if_pos H1.out],au⟩
  ·have H1:=Jh h1
   have g1:(wd == -1)=false:=by rw [beq_eq_false_iff_ne];exact h1
   clear h1
   go_wp2_with fail
   go_meet
   case rel=>exact ⟨fun h=>H1.out h.1,by rw [if_neg H1.out],Below.refl _ _⟩
 case rest =>
  obtain ⟨cc,rfl,hB⟩:=hcut
  have ap:=ay.out
  rw [if_neg cc] at ap
  have aw:=Jh ap
  clear ap ay cc
  generalize (if wd = -1 then (1:Int) else wd)=w1 at *
  go_upto_region 6 with (first | ((with_reducible show Jl 40);refine Aa rfl 40 _ rfl rfl ((K0.out.ext hB).has) Ah rfl ?_) | (go_at_call 131;refine ((ba _).out hB).mono ?_;rintro r w4 ⟨rfl,au⟩) | (go_at_call 132;refine (Ry _ _ _).mono ?_;rintro r w6 ⟨rfl,rfl⟩))
  have ak:=hB.trans au
  clear au hB
  generalize Bw w1 (Bw q 32)=w2 at *
  have L0:=(K0.out.ext ak).has
  have f0:=L0 0 _ rfl
  have f1:=L0 1 _ rfl
  have f2:=L0 2 _ rfl
  by_cases aa:op=1/\ae=0
  ·have aq:=aw.out
   rw [if_pos aa] at aq
   have ax:=Jh aq
   clear aq aw
   have b1:(op==1)=true:=by rw [beq_iff_eq];exact aa.1
   have b2:(ae==0)=true:=by rw [beq_iff_eq];exact aa.2
   have bf:=Jh aa
   clear aa
   obtain ⟨hh,b9⟩:∃ hh,holds w2 v=hh:=⟨_,rfl⟩
   have a9:=Jh b9
   clear b9
   cases hh
   ·go_wp2_with (first | (go_at_call 57;refine (Ie _ _ _ bo.out).mono ?_;rw [a9.out];rintro r w6 ⟨rfl,rfl⟩) | (((with_reducible show Js 40);refine Ac rfl 40 _ _ rfl (K1.out.ext ak) rfl (cs:=A0) rfl Ah rfl rfl rfl ?_;intro w7 ac af)))
    refine Ak rfl rfl rfl ac.has Ah rfl rfl (.inl ⟨92,by rw [ax.out,a9.out];rfl,by omega,rfl,(HX.trans ak).grown af (by omega)⟩)
   ·go_wp2_with (first | (go_at_call 57;refine (Ie _ _ _ bo.out).mono ?_;rw [a9.out];rintro r w6 ⟨rfl,rfl⟩) | (((with_reducible show Js 40);refine Ac rfl 40 _ _ rfl (K1.out.ext ak) rfl (cs:=E.cells ⟨1,w2,v,0,0,0,0,[]⟩ (.slice Option.none 0 0)) rfl Ah rfl rfl rfl ?_;intro w7 ac af)))
    refine Ak rfl rfl rfl ac.has Ah rfl rfl (.inr ⟨_,_,by rw [ax.out,a9.out];rfl,rfl,fun W _=>⟨_,rfl,Sl.nil _ _⟩,(HX.trans ak).grown af (by omega)⟩)
  ·have aq:=aw.out
   rw [if_neg aa] at aq
   have ax:=Jh aq
   clear aq aw
   have bf:=Jh aa
   go_cut [31] (fun u wr=>u=.bool false/\Ext w0 wr)
   case first =>
    by_cases a6:op=1
    ·have b1:(op==1)=true:=by rw [beq_iff_eq];exact a6
     have b2:(ae==0)=false:=by rw [beq_eq_false_iff_ne];exact fun h=>aa ⟨a6,h⟩
     clear a6 aa
     go_wp2_with fail
     go_meet
     case rel=>exact ⟨rfl,ak⟩
    ·have b1:(op==1)=false:=by rw [beq_eq_false_iff_ne];exact a6
     clear a6 aa
     go_wp2_with fail
     go_meet
     case rel=>exact ⟨rfl,ak⟩
   case rest =>
    obtain ⟨rfl,az⟩:=hcut
    go_upto_region 11 with (first | ((with_reducible show Jl 40);refine Aa rfl 40 _ rfl rfl ((K0.out.ext az).has) Ah rfl ?_) | (go_at_call 133;refine ((cr _ _).out az).mono ?_;rintro r w6 c4;rcases c4 with ⟨bw,rfl,a7⟩ | ⟨ps,Bp,bw,c9,rfl,b6,a7⟩))
    all_goals have bp:=Jh bw
    all_goals clear bw
    ·go_wp2_with (first | (((with_reducible show Js 40);refine Ac rfl 40 _ _ rfl (K1.out.ext (az.trans a7)) rfl (cs:=A0) rfl Ah rfl rfl rfl ?_;intro w7 ac af)))
     refine Ak rfl rfl rfl ac.has Ah rfl rfl (.inl ⟨90,by rw [ax.out,bp.out],by omega,rfl,(HX.trans (az.trans a7)).grown af (by omega)⟩)
    have bl:=ax.out
    rw [bp.out] at bl
    have bm:=Jh bl
    clear bl ax bp
    have a8:=az.trans a7
    clear az a7 ak
    have KP:=Jh b6
    clear b6 f0 f1 f2
    have f7:=(K0.out.ext a8).has 7 _ rfl
    have cb:madeCells (Value.cells (.agg A0.toArray)) (l.length*8)=(List.replicate l.length A0).flatten.toArray:=Yp _
    have cp:=Jh cb
    clear cb
    have cu:=Jh (KP.out.alloc (.cells (List.replicate l.length A0).flatten.toArray 40))
    have KM:=Jh (Blk.new w6 (List.replicate l.length A0).flatten.toArray 40)
    have bh:=a8.alloc (.cells (List.replicate l.length A0).flatten.toArray 40)
    go_upto_region 14 with (first | (at_make;refine Um rfl 38 _ _ rfl rfl rfl Tryz.underlying38 Ahf (by omega) (by omega) ?_;rw [cp.out]))
    have cv:w0.heap.size<=w6.heap.size:=a8.size
    have cx:=KP.out.lt
    have c7:w6.heap.size<(w6.alloc (.cells (List.replicate l.length A0).flatten.toArray 40)).heap.size:=by rw [World.size_alloc];omega
    generalize hMM:w6.heap.size=M at *
    generalize w6.alloc _=w7 at *
    have f8:=(K0.out.ext bh).has 7 _ rfl
    clear f7 hMM KP a8 bf aa L0
    go_wp2_with fail
    go_loopw [9,10,11,12,59] (fun _ _ _ _ i wr=>∃ k css r,i=.int .i64 (k:Nat)/\G4 w7 M l ps k css r wr) (fun _ _ _ _ i _=>l.length-(intOf i).toNat)
    case atStart=>exact ⟨0,[],[],rfl,.zero KM.out⟩
    case round =>
     obtain ⟨k,css,rr,rfl,hR⟩:=hrel
     have ag:=Jh hR
     have hk:=hR.le
     have al:Ext w0 wr:=Below.trans bh (Below.mono hR.below cv)
     have da:w7.heap.size<=wr.heap.size:=hR.below.size
     clear hR
     by_cases an:k<l.length
     ·obtain ⟨cs,b7,h8,bv⟩:=VE.get (HR.out.mono fun x _ b o h=>EAt.ext' (HX.trans al) h) an
      obtain rfl:=HA.out (by omega)
      have cg:k<ps.length:=by omega
      have cf:=bv.one
      have cq:=Jh bv
      have co:=Jh b7
      clear bv b7
      go_upto_region 17 with (first | ((with_reducible show Jl 40);refine Aa rfl 40 _ rfl rfl (co.out) Ah h8 ?_) | ((with_reducible show Js 40);refine Ad rfl 40 _ _ rfl rfl (by first | rfl | simp) rfl Ah (h8) rfl (cf) ?_))
      have av:=Has.alloc wr cs 40
      have bq:=Ab wr (.cells cs.toArray 40)
      have cj:(wr.alloc (.cells cs.toArray 40)).heap.size=wr.heap.size+1:=World.size_alloc _ _
      generalize wr.alloc (.cells cs.toArray 40)=wb at *
      have cw:Blk wb Bp (ints ps).toArray 3:=(show Blk wr Bp (ints ps).toArray 3 from (ag.out.below.block Bp cx).trans cu.out).ext bq
      have bd:Has wb Bp k [.int .i64 ps[k]]:=by intro j u hj;cases j with | zero=>(simp at hj;subst hj;rw [cw.cell];simp [ints,cg]) | succ j=>simp at hj
      have a2:∀ W,Hid (Ext wb W->Calls Tryz.prog 98 #[.agg cs.toArray,.int .i64 ps[k]] W (Dc W (Ao l[k] ps[k]))):=fun W=>Jh fun hx =>
       IH.out _ (List.getElem_mem an) _ _ W (cq.out.ext (bq.trans hx)) (((E.wf_iff _).1 ct.out).2.2.2.2.2.2.2 _ (List.getElem_mem an)) (((Fd _).1 a0.out).2.2.2 _ (List.getElem_mem an)) (by have h1:=Bf nodes l _ (List.getElem_mem an);omega)
      simp only [Act.put]
      go_cut [11,12] (fun u f wc=>Aaz wb (Ao l[k] ps[k]) u f wc)
      case first =>
       refine wp_region_held_drew (S:=fun W=>(Has W wr.heap.size 0 cs/\Has W Bp k [.int .i64 ps[k]])/\Ext wb W) (by kernel_rfl) ⟨⟨av,bd⟩,Below.drew (Below.refl _ _)⟩ (fun hH=>?_)
       (refine Jt 0 (.agg cs.toArray) rfl (Ar rfl 40 _ rfl rfl (fun _ h=>h.1.1) Ah h8) hH ?_;try simp only [Act.put,Ja,Je,Jf])
       (refine Ji 1 _ rfl hH ?_;try simp only [Act.put,Ja,Je,Jf])
       (refine Ji 2 _ rfl hH ?_;try simp only [Act.put,Ja,Je,Jf])
       (refine Jt 3 (.pointer (some ⟨Bp,k,Option.none⟩)) rfl (yif_load1 rfl (by intro W hW;go_simp)) hH ?_;try simp only [Act.put,Ja,Je,Jf])
       (refine Jt 4 (.int .i64 ps[k]) rfl (yif_load1 rfl (by intro W hW;have hw:W.cell? ⟨Bp,k,Option.none⟩=some (.int .i64 ps[k]):=hW.1.2 0 _ rfl;clear hW;go_simp)) hH ?_;try simp only [Act.put,Ja,Je,Jf])
       refine wpAnyH_ready (rs:=[5,9]) (by kernel_rfl) (by simp) ?_
       refine AllReadyH.cons rfl (fun K hK=>?_) (AllReadyH.cons rfl (fun K hK=>?_) AllReadyH.nil)
       ·go_simp
        refine ((a2 _).out hH.2).mono ?_
        rintro r w9 hp
        obtain ⟨ar,g,rfl,am,ab,ai,ho⟩:=hp.open
        refine hK.out _ _ ⟨⟨hH.1.1.ext ai,hH.1.2.ext ai⟩,hH.2.trans ai⟩ (fun hH=>?_)
        clear hK K
        try simp only [Act.put,Ja,Je,Jf]
        (refine Ji 6 _ rfl hH ?_;try simp only [Act.put,Ja,Je,Jf])
        (refine Ji 7 _ rfl hH ?_;try simp only [Act.put,Ja,Je,Jf])
        (refine Ji 8 _ rfl hH ?_;try simp only [Act.put,Ja,Je,Jf])
        refine Jr 9 rfl fun K hK=>?_
        go_simp
        have hex:=Ab w9 (.cells A0.toArray 40)
        have bu:=Blk.new w9 A0.toArray 40
        refine hK.out _ _ ⟨⟨hH.1.1.ext hex,hH.1.2.ext hex⟩,hH.2.trans hex⟩ (fun hH=>?_)
        clear hK K
        try simp only [Act.put,Ja,Je,Jf]
        generalize w9.alloc _=wa at *
        refine Jr 10 rfl fun K hK=>?_
        refine D2 rfl 40 _ _ rfl bu rfl (cs:=ar) rfl Ah am rfl ab ?_
        intro wz bs bc
        have cl:Ext w9 wz:=hex.grown bc (Nat.le_refl _)
        have aj:Ext wb wz:=(Below.drew (Below.refl _ _):Ext wb wb.drew).trans (ai.trans cl)
        refine hK.out _ _ ⟨⟨av.ext aj,bd.ext aj⟩,aj⟩ (fun hH=>?_)
        clear hK K
        try simp only [Act.put,Ja,Je,Jf]
        (refine Ji 11 _ rfl hH ?_;try simp only [Act.put,Ja,Je,Jf])
        refine Jz ?_
        go_wp2_with fail
        go_meet
        case rel=>exact ⟨_,ar,g,rfl,rfl,bs.has,am,ab,aj,ho.imp (fun ⟨h1,y,h2,h3⟩=>⟨h1,y,h2,h3.ext cl⟩) id⟩
       ·go_simp
        have hex:=Ab wb (.cells A0.toArray 40)
        have bu:=Blk.new wb A0.toArray 40
        refine hK.out _ _ ⟨⟨av.ext hex.drew,bd.ext hex.drew⟩,hex.drew⟩ (fun hH=>?_)
        clear hK K
        try simp only [Act.put,Ja,Je,Jf]
        refine Jr 5 rfl fun K hK=>?_
        go_simp
        refine ((a2 _).out hH.2).mono ?_
        rintro r w9 hp
        obtain ⟨ar,g,rfl,am,ab,ai,ho⟩:=hp.open
        refine hK.out _ _ ⟨⟨hH.1.1.ext ai,hH.1.2.ext ai⟩,hH.2.trans ai⟩ (fun hH=>?_)
        clear hK K
        try simp only [Act.put,Ja,Je,Jf]
        (refine Ji 6 _ rfl hH ?_;try simp only [Act.put,Ja,Je,Jf])
        (refine Ji 7 _ rfl hH ?_;try simp only [Act.put,Ja,Je,Jf])
        (refine Ji 8 _ rfl hH ?_;try simp only [Act.put,Ja,Je,Jf])
        refine Jr 10 rfl fun K hK=>?_
        refine D2 rfl 40 _ _ rfl (bu.drew.ext ai) (by rw [cj];rfl) (cs:=ar) rfl Ah am rfl ab ?_
        intro wz bs bc
        have aj:Ext wb wz:=hH.2.grown bc (Nat.le_refl _)
        refine hK.out _ _ ⟨⟨av.ext aj,bd.ext aj⟩,aj⟩ (fun hH=>?_)
        clear hK K
        try simp only [Act.put,Ja,Je,Jf]
        (refine Ji 11 _ rfl hH ?_;try simp only [Act.put,Ja,Je,Jf])
        refine Jz ?_
        go_wp2_with fail
        go_meet
        case rel=>exact ⟨_,ar,g,by rw [cj],rfl,bs.has,am,ab,aj,ho.imp (fun ⟨h1,y,h2,h3⟩=>⟨h1,y,h2,(h3.since (Al.of_grown bc (by simp [World.size_alloc,World.drew]))).mono (by simp [World.size_alloc,World.drew])⟩) id⟩
      case rest =>
       obtain ⟨B,ar,g,rfl,rfl,bg,am,ab,c5,ho⟩:=hcut
       have bi:ps[k]?.getD 0=ps[k]:=by simp [cg]
       have be:=bq.trans c5
       rcases ho with ⟨rfl,y,hy,hf⟩ | ⟨hg,hy⟩
       ·have a4:=ag.out.blk.ext be
        rw [Ae9 an,<-List.append_assoc] at a4
        have cd:css.flatten.length=k*8:=by rw [Ad1 ag.out.cells,ag.out.len]
        have cm:=Jh a4
        have cn:=Jh bg
        have HY:=Jh hy
        clear a4 bg hy
        go_wp2_with (first | ((with_reducible show Jl 40);refine Aa rfl 40 _ rfl rfl (cn.out) Ah am ?_) | (((with_reducible show Js 40);refine Pe rfl 40 _ _ rfl cm.out rfl cd (cs:=ar) rfl Ah am rfl ab ?_;intro wx ah ch)))
        go_roundw
        case rel=>exact ⟨k+1,_,_,rfl,ag.out.step an (by rw [bi];exact HY.out) (hf.mono (by omega)) be ah ch⟩
        case measure=>simp [intOf];omega
       ·have g1:(g != 0)=true:=by rw [bne_iff_ne];omega
        have HY:=Jh hy
        clear hy
        go_wp2_with (first | (((with_reducible show Js 40);refine Ac rfl 40 _ _ rfl (K1.out.ext (al.trans be)) rfl (cs:=A0) rfl Ah rfl rfl rfl ?_;intro w7 ac af)))
        refine Ak rfl rfl rfl ac.has Ah rfl rfl (.inl ⟨g,by rw [bm.out,L6 l k ps an rr ag.out.model g (by rw [bi];exact HY.out)],hg,rfl,(HX.trans (al.trans be)).grown af (by omega)⟩)
     ·obtain rfl:k=l.length:=by omega
      have a5:=ag.out.model
      rw [List.take_length] at a5
      have br:=bm.out
      rw [a5] at br
      have b4:=Jh br
      clear br a5 bm
      have ah:=K0.out.ext al
      have av:=Jh ah
      have e0:=ah.has 0 _ rfl
      have e6:=ah.has 6 _ rfl
      clear ah
      go_upto_region 22 with fail
      go_cut [110] (fun u wz=>∃ t,u=.bool t/\(t=true↔op=8/\(n=33/\Ao.hdW rr<w2\/n≠33/\w2<Ao.hdW rr))/\Ext wr wz)
      case first =>
       by_cases o8:op=8
       ·have eh:=ag.out.head (((Fd _).1 a0.out).2.2.1 (by simp [o8]))
        have c1:0<l.length:=((Fd _).1 a0.out).2.2.1 (by simp [o8])
        have b1:(op==8)=true:=by rw [beq_iff_eq];exact o8
        have O8:=Jh o8
        clear o8
        by_cases ao:n=33
        ·have b2:(n==33)=true:=by rw [beq_iff_eq];exact ao
         have b3:(n != 33)=false:=by rw [bne_eq_false_iff_eq];exact ao
         have a1:=Jh ao
         clear ao
         by_cases hc:Ao.hdW rr<w2
         ·go_wp2_with fail
          go_meet
          case rel=>exact ⟨_,rfl,by simp [O8.out,a1.out,hc],Below.refl _ _⟩
         ·go_wp2_with fail
          go_meet
          case rel=>exact ⟨_,rfl,by simp [O8.out,a1.out];omega,Below.refl _ _⟩
        ·have b2:(n==33)=false:=by rw [beq_eq_false_iff_ne];exact ao
         have b3:(n != 33)=true:=by rw [bne_iff_ne];exact ao
         have a1:=Jh ao
         clear ao
         by_cases hc:w2<Ao.hdW rr
         ·go_wp2_with fail
          go_meet
          case rel=>exact ⟨_,rfl,by simp [O8.out,a1.out,hc],Below.refl _ _⟩
         ·go_wp2_with fail
          go_meet
          case rel=>exact ⟨_,rfl,by simp [O8.out,a1.out];omega,Below.refl _ _⟩
       ·have b1:(op==8)=false:=by rw [beq_eq_false_iff_ne];exact o8
        have O8:=Jh o8
        clear o8
        go_wp2_with fail
        go_meet
        case rel=>exact ⟨false,rfl,by simp [O8.out],Below.refl _ _⟩
      case rest =>
       obtain ⟨t,rfl,ht,hx⟩:=hcut
       have HT:=Jh ht
       clear ht
       have c6:w.heap.size+1<w0.heap.size:=K1.out.lt
       cases t
       ·have a3:=av.out.ext hx
        have bt:=a3.frozen
        have z1:=a3.has 1 _ rfl
        have z7:=a3.has 7 _ rfl
        have r1:=bt 1
        have r7:=bt 7
        go_upto_region 25 with fail
        have b5:=(a3.set 1 (.int .i64 w2)).set 7 (.slice (some ⟨M,0,Option.none⟩) l.length l.length)
        have ac:Blk _ w.heap.size (E.cells ⟨op,w2,v,sig,hi,lo,n,rr⟩ (.slice (some ⟨M,0,Option.none⟩) l.length l.length)).toArray 40:=b5
        have bb:=A5 (Ay wc w.heap.size 1 (.int .i64 w2)) (Ay _ w.heap.size 7 (.slice (some ⟨M,0,Option.none⟩) l.length l.length))
        have c0:=(K1.out.ext (al.trans hx)).grown bb (by omega)
        have c3:Al M wr _:=(Al.of_ext hx).trans (Al.of_grown bb (by omega))
        have hex:=(HX.trans (al.trans hx)).grown bb (Nat.le_refl _)
        clear b5 a3 bt z1 z7 r1 r7 bb
        generalize (wc.setCell _ _).setCell _ _=wy at *
        go_wp2_with (first | ((with_reducible show Jl 40);refine Aa rfl 40 _ rfl rfl (ac.has) Ah rfl ?_) | (((with_reducible show Js 40);refine Ac rfl 40 _ _ rfl c0 rfl (cs:=E.cells ⟨op,w2,v,sig,hi,lo,n,rr⟩ (.slice (some ⟨M,0,Option.none⟩) l.length l.length)) rfl Ah rfl rfl rfl ?_;intro w7 cy b8)))
        refine Ak rfl rfl rfl cy.has Ah rfl rfl (.inr ⟨_,_,by rw [b4.out];exact if_neg (fun h=>by simpa using HT.out.2 h),rfl,fun W hW=>⟨_,rfl,ag.out.es (c3.trans ((Al.of_grown b8 (by omega)).trans (hW.mono (by omega)))) (by omega)⟩,hex.grown b8 (by omega)⟩)
       ·go_wp2_with (first | (((with_reducible show Js 40);refine Ac rfl 40 _ _ rfl (K1.out.ext (al.trans hx)) rfl (cs:=A0) rfl Ah rfl rfl rfl ?_;intro w7 ac af)))
        refine Ak rfl rfl rfl ac.has Ah rfl rfl (.inl ⟨90,by rw [b4.out];exact if_pos (HT.out.1 (by trivial)),by omega,rfl,(HX.trans (al.trans hx)).grown af (by omega)⟩)
end Go.Proofs.YtbliplladmamoaaGreat
