/- Laws and walks that a claim of this seat leans on: Size. -/
import Derived.Test.YtpngepnfinbaoaaGreatC06
import Derived.Test.YtpngepnfinbaoaaGreatC07
import Derived.Test.YtpngepnfinbaoaaGreatC03
import Derived.Test.YtpngepnfinbaoaaGreatC00
set_option maxRecDepth 100000
set_option maxHeartbeats 8000000
set_option linter.all false
namespace Go.Proofs.YtpngepnfinbaoaaGreat
open Go.RowKit
abbrev zeroE:List Value:=[.int .i64 0,.int .i64 0,.int .u64 0,.int .i64 0,.int .i64 0,.int .i64 0,.int .i64 0,.slice Option.none 0 0]
theorem post_ret_blk2 {P:Program} {fn:Func} {R:Ending->World->Prop} {a:Act} {w:World} {p q:Tmp} {ty:TypeId} {B:Nat} {cs:List Value} {v:Value} {n:Nat} (hf:fn.results = #[.cell p ty,.tmp q])
  (hp:a.tmps.getD p undef=.pointer (some ⟨B,0,none⟩)) (hq:a.tmps.getD q undef=v) (hb:Has w B 0 cs) (hu:Agg P ty n) (hn:cs.length=n) (hd:a.defers=[]) (h:R (.returned (.tuple #[.agg cs.toArray,v])) w):bodyPost P fn R .ret a w:=by
 subst hn
 subst hq
 refine bodyPost_ret ?_ hd h
 have hp':a.tmps[p]?.getD undef=.pointer (some ⟨B,0,none⟩):=by simpa using hp
 simp [results,hf,hp',asAddr,run_loadVar_has w B 0 ty cs hb hu]
def SizePost (w:World) (o:Except Int E) (r:Ending) (w':World):Prop :=
 (∃ g,o=.error g/\(90<=g/\g<=92)/\r=.returned (.tuple #[.agg zeroE.toArray,.int .i64 g])/\Ext w w') \/
 (∃ y cs,o=.ok y/\r=.returned (.tuple #[.agg cs.toArray,.int .i64 0])/\FE w.heap.size w' cs y/\Ext w w')
theorem SizePost.open {w w':World} {o:Except Int E} {r:Ending} (h:SizePost w o r w'):∃ cs g,r=.returned (.tuple #[.agg cs.toArray,.int .i64 g])/\cs.length=8/\cs.all (·.oneCell')=true/\Ext w w' /\
  ((g=0/\∃ y,o=.ok y/\FE w.heap.size w' cs y)\/((90<=g/\g<=92)/\o=.error g)):=by
 rcases h with ⟨g,ho,hg,rfl,hx⟩ | ⟨y,cs,ho,rfl,hf,hx⟩
 ·exact ⟨_,_,rfl,rfl,rfl,hx,.inr ⟨hg,ho⟩⟩
 ·exact ⟨_,_,rfl,(by obtain ⟨s,rfl,-⟩:=hf.ve;rfl),hf.ve.one,hx,.inl ⟨rfl,y,ho,hf⟩⟩
def CallOut (wb:World) (o:Except Int E) (u f:Value) (wc:World):Prop:=∃ B cs g,u=.pointer (some ⟨B,0,none⟩)/\f=.int .i64 g/\Has wc B 0 cs/\cs.length=8/\cs.all (·.oneCell')=true/\Ext wb wc /\
 ((g=0/\∃ y,o=.ok y/\FE wb.heap.size wc cs y)\/((90<=g/\g<=92)/\o=.error g))
def SizeSaid (x:E):Prop:=∀ (wd:Int) (cs:List Value) (w:World),VE w cs x->x.wf->OwnOk x->nodes x<=1048576 ->
 Calls Tryz.prog 90 #[.agg cs.toArray,.int .i64 wd] w (SizePost w (sizeE x wd))
theorem rep_get {z:List Value} (n:Nat):∀ i:Nat,(List.replicate n z).flatten[i]? = if i<n*z.length then z[i%z.length]? else none:=by
 induction n with
 | zero=>intro i;simp
 | succ n ih =>
  intro i
  rw [List.replicate_succ,List.flatten_cons]
  by_cases h:i<z.length
  ·rw [List.getElem?_append_left h,Nat.mod_eq_of_lt h,if_pos (by rw [Nat.succ_mul];omega)]
  ·rw [List.getElem?_append_right (by omega),ih,Nat.mod_eq_sub_mod (by omega:i ≥ z.length)]
   by_cases h2:i-z.length<n*z.length
   ·rw [if_pos h2,if_pos (by rw [Nat.succ_mul];omega)]
   ·rw [if_neg h2,if_neg (by rw [Nat.succ_mul];omega)]
theorem madeCells_E (n:Nat):madeCells (Value.cells (.agg zeroE.toArray)) (n*8)=(List.replicate n zeroE).flatten.toArray:=by
 apply Array.ext_getElem?
 intro i
 have hR:(List.replicate n zeroE).flatten.toArray[i]? = if i<n*zeroE.length then zeroE[i%zeroE.length]? else none:=by rw [List.getElem?_toArray,rep_get]
 rw [hR]
 show (madeCells zeroE.toArray (n*8))[i]? = _
 simp only [madeCells,Array.getElem?_map,Array.getElem?_range]
 by_cases h:i<n*8
 ·have h8:i%8<zeroE.length:=Nat.mod_lt _ (by decide)
  simp [h,List.getElem?_eq_getElem h8]
 ·simp [h]
structure SizeRel (w7:World) (M:Nat) (l:List E) (ps:List Int) (k:Nat) (css:List (List Value)) (r:List E) (wr:World):Prop where
 le:k<=l.length
 len:css.length=k
 cells:∀ cs∈css,cs.length=8
 model:sizeE.sizeL (l.take k) ps=.ok r
 rlen:r.length=k
 each:∀ i (h:i<css.length) (h':i<r.length),FE (M+1) wr css[i] r[i]
 blk:Blk wr M (css.flatten++(List.replicate (l.length-k) zeroE).flatten).toArray 31
 below:Below M w7 wr
theorem SizeRel.zero {w7:World} {M:Nat} {l:List E} {ps:List Int} (h:Blk w7 M (List.replicate l.length zeroE).flatten.toArray 31):SizeRel w7 M l ps 0 [] [] w7 :=
 ⟨Nat.zero_le _,rfl,(by simp),rfl,rfl,(by simp),(by simpa using h),Below.refl _ _⟩
theorem rep_flat {n k:Nat} (h:k<n):(List.replicate (n-k) zeroE).flatten=zeroE++(List.replicate (n-(k+1)) zeroE).flatten:=by
 obtain ⟨m,hm⟩:∃ m,n-k=m+1:=⟨n-k-1,by omega⟩
 rw [hm,show n-(k+1)=m by omega,List.replicate_succ,List.flatten_cons]
theorem SizeRel.step {w7:World} {M:Nat} {l:List E} {ps:List Int} {k:Nat} {css:List (List Value)} {r:List E} {wr wc wx:World} (h:SizeRel w7 M l ps k css r wr) (hk:k<l.length) {y:E} {cs:List Value}
  (hy:sizeE l[k] (ps[k]?.getD 0)=.ok y) (hf:FE (M+1) wc cs y) (hx:Ext wr wc) (hb:Blk wx M (css.flatten++cs++(List.replicate (l.length-(k+1)) zeroE).flatten).toArray 31) (hg:wc.grownBy wx (some M)) :
  SizeRel w7 M l ps (k+1) (css++[cs]) (r++[y]) wx:=by
 have h1:Since (M+1) wr wx:=(Since.of_ext hx).trans (Since.of_grown hg (by omega))
 have hM:=h.blk.lt
 refine ⟨hk,by simp [h.len],?_,by rw [sizeL_snoc _ _ _ hk,h.model,hy],by simp [h.rlen],?_,by simpa [List.append_assoc] using hb,?_⟩
 ·intro c hc
  rcases List.mem_append.1 hc with hc | hc
  ·exact h.cells c hc
  ·obtain rfl:=List.mem_singleton.1 hc
   obtain ⟨s,hs,-⟩:=hf.ve
   rw [hs];rfl
 ·intro i hi hi'
  have hl:=h.len
  have hl':=h.rlen
  by_cases hik:i<k
  ·rw [List.getElem_append_left (by omega),List.getElem_append_left (by omega)]
   exact (h.each i (by omega) (by omega)).since h1
  ·have:i=k:=by simp at hi;omega
   rw [List.getElem_append_right (by omega),List.getElem_append_right (by omega)]
   simp only [hl,hl',this,Nat.sub_self,Jb]
   exact hf.since (Since.of_grown hg (by omega))
 ·exact Below.grown (Below.trans h.below (Below.mono hx (by omega))) hg (by have:=hx.size;omega) (fun k hk=>by cases hk;exact Nat.le_refl _)
theorem SizeRel.head {w7:World} {M:Nat} {l:List E} {ps:List Int} {k:Nat} {css:List (List Value)} {r:List E} {wr:World} (h:SizeRel w7 M l ps k css r wr) (hk:1<=k):wr.cell? ⟨M,1,none⟩=some (.int .i64 (sizeE.hdW r)):=by
 obtain ⟨-,h2,-,-,h5,h6,h7,-⟩:=h
 cases css with
 | nil=>simp at h2;omega
 | cons c css =>
  cases r with
  | nil=>simp at h5;omega
  | cons y r =>
   obtain ⟨s,hs,-⟩:=(h6 0 (by simp) (by simp)).ve
   simp only [Jb] at hs
   rw [h7.cell,hs]
   rfl
theorem SizeRel.es {w7:World} {M:Nat} {l:List E} {ps:List Int} {css:List (List Value)} {r:List E} {wr W:World} (h:SizeRel w7 M l ps l.length css r wr) (hs:Since M wr W) (hl:l.length<=1048576) :
  Es W (.slice (some ⟨M,0,none⟩) l.length l.length) r:=by
 obtain ⟨-,h2,-,-,h5,h6,h7,-⟩:=h
 refine ⟨M,0,⟨_,_,by rw [h5],by omega,by simp only [maxLen];omega,fun _=>rfl⟩,?_⟩
 have hb:=hs.blk h7 (Nat.le_refl _)
 rw [Nat.sub_self,List.replicate_zero,List.flatten_nil] at hb
 exact es_of_blk r css [] W M [] _ (by simpa using hb) (by omega) (fun i hi hi'=>h6 i hi hi' W (hs.mono (by omega)))
def Mid1 (w0:World) (wd q:Int) (u:Value) (wr:World):Prop:=¬ (wd = -1/\1<q)/\u=.int .i64 (if wd = -1 then 1 else wd)/\Ext w0 wr
theorem size_step (e:E) (ih:∀ x∈e.l,SizeSaid x):SizeSaid e:=by
 intro wd cs w hV hwf hok hb
 have IH:=Jh ih
 clear ih
 have HOK:=Jh hok
 have HWF:=Jh hwf
 have HNB:=Jh hb
 have HV3:=Jh ((E.wf_iff e).1 hwf).2.2.1
 obtain ⟨s,rfl,hs⟩:=hV
 have HSE:=Jh (sizeE_eq e wd)
 have hlen:=length_le_sumBy nodes e.l (fun x _=>nodes_pos x)
 have hne:=nodes_eq e
 obtain ⟨a,b,o,cap,hsl,hc1,hc2,ha,hr⟩:=hs.open
 have HEs:=Jh hs
 have HR:=Jh hr
 have HA:=Jh ha
 obtain ⟨op,ewd,v,sig,hi,lo,n,l⟩:=e
 simp only at hsl hc1 HSE HEs HR HA IH hlen hne HV3
 subst hsl
 clear hr ha hs hok hwf
 have HX:=(ext_alloc w (.cells (E.cells ⟨op,ewd,v,sig,hi,lo,n,l⟩ (.slice a l.length cap)).toArray 31)).alloc (.cells zeroE.toArray 31)
 have HB0:=(Blk.new w (E.cells ⟨op,ewd,v,sig,hi,lo,n,l⟩ (.slice a l.length cap)).toArray 31).alloc (.cells zeroE.toArray 31)
 have HB1:=Blk.new (w.alloc (.cells (E.cells ⟨op,ewd,v,sig,hi,lo,n,l⟩ (.slice a l.length cap)).toArray 31)) zeroE.toArray 31
 simp only [World.size_alloc] at HB1
 go_enter Tryz.func90,Tryz.ntmps90
 go_upto_if 14 with (fail)
 generalize (w.alloc _).alloc _=w0 at *
 have K0:=Jh HB0
 have K1:=Jh HB1
 clear HB0 HB1
 have HOW:∀ W,Hid (Ext w0 W->Calls Tryz.prog 117 #[.agg (E.cells ⟨op,ewd,v,sig,hi,lo,n,l⟩ (.slice a l.length cap)).toArray] W fun r w'=>r=.returned (.int .i64 (own ⟨op,ewd,v,sig,hi,lo,n,l⟩))/\Ext W w') :=
  fun W=>Jh fun hx=>own_calls _ _ W ⟨_,rfl,HEs.out.ext (HX.trans hx)⟩ HOK.out HNB.out
 have HWA:∀ w2 W,Hid (Ext w0 W->Calls Tryz.prog 119 #[.agg (E.cells ⟨op,ewd,v,sig,hi,lo,n,l⟩ (.slice a l.length cap)).toArray,.int .i64 w2] W (WantPost W l.length (wantedL ⟨op,ewd,v,sig,hi,lo,n,l⟩ w2))) :=
  fun w2 W=>Jh fun hx=>wanted_calls ⟨op,ewd,v,sig,hi,lo,n,l⟩ w2 _ W ⟨_,rfl,HEs.out.ext (HX.trans hx)⟩ HOK.out HNB.out
 obtain ⟨q,hq⟩:∃ q,own ⟨op,ewd,v,sig,hi,lo,n,l⟩=q:=⟨_,rfl⟩
 rw [hq] at HSE
 simp only [hq] at HOW
 clear hq
 go_cut [1] (fun u wr=>Mid1 w0 wd q u wr)
 case first =>
  by_cases h1:wd = -1
  ·by_cases h2:1<q
   ·have HS2:=HSE.out
    rw [if_pos ⟨h1,h2⟩] at HS2
    have HS3:=Jh HS2
    clear HS2 HSE
    have H1:=Jh h1
    have g1:(wd == -1)=true:=by rw [beq_iff_eq];exact h1
    clear h1
    go_wp2_with (first | ((with_reducible show Jl 31);refine Jm 31 (K0.out.has) agg_E rfl ?_) | (go_at_call 117;refine ((HOW _).out (Below.refl _ _)).mono ?_;rintro r w4 ⟨rfl,hx1⟩) | (((with_reducible show Js 31);refine wpList_store_blk rfl 31 _ _ rfl (K1.out.ext hx1) rfl (cs:=zeroE) rfl agg_E rfl rfl rfl ?_;intro w2 hb2 hg2)))
    refine post_ret_blk2 rfl rfl rfl hb2.has agg_E rfl rfl (.inl ⟨91,HS3.out,by omega,rfl,(HX.trans hx1).grown hg2 (by omega)⟩)
   ·have H1:=Jh h1
    have g1:(wd == -1)=true:=by rw [beq_iff_eq];exact h1
    clear h1
    go_wp2_with (first | ((with_reducible show Jl 31);refine Jm 31 (K0.out.has) agg_E rfl ?_) | (go_at_call 117;refine ((HOW _).out (Below.refl _ _)).mono ?_;rintro r w4 ⟨rfl,hx1⟩))
    go_meet
    case rel=>exact ⟨fun h=>absurd h.2 (by omega),by rw [if_pos H1.out],hx1⟩
  ·have H1:=Jh h1
   have g1:(wd == -1)=false:=by rw [beq_eq_false_iff_ne];exact h1
   clear h1
   go_wp2_with fail
   go_meet
   case rel=>exact ⟨fun h=>H1.out h.1,by rw [if_neg H1.out],Below.refl _ _⟩
 case rest =>
  obtain ⟨hno,rfl,hB⟩:=hcut
  have HS2:=HSE.out
  rw [if_neg hno] at HS2
  have HS3:=Jh HS2
  clear HS2 HSE hno
  generalize (if wd = -1 then (1:Int) else wd)=w1 at *
  go_upto_region 6 with (first | ((with_reducible show Jl 31);refine Jm 31 ((K0.out.ext hB).has) agg_E rfl ?_) | (go_at_call 117;refine ((HOW _).out hB).mono ?_;rintro r w4 ⟨rfl,hx1⟩) | (go_at_call 118;refine (told_calls _ _ _).mono ?_;rintro r w6 ⟨rfl,rfl⟩))
  have HB4:=hB.trans hx1
  clear hx1 hB
  generalize told w1 (told q 32)=w2 at *
  have L0:=(K0.out.ext HB4).has
  have f0:=L0 0 _ rfl
  have f1:=L0 1 _ rfl
  have f2:=L0 2 _ rfl
  by_cases hnum:op=1/\ewd=0
  ·have HS4:=HS3.out
   rw [if_pos hnum] at HS4
   have HS5:=Jh HS4
   clear HS4 HS3
   have b1:(op==1)=true:=by rw [beq_iff_eq];exact hnum.1
   have b2:(ewd==0)=true:=by rw [beq_iff_eq];exact hnum.2
   have HNUM:=Jh hnum
   clear hnum
   obtain ⟨hh,hhe⟩:∃ hh,holds w2 v=hh:=⟨_,rfl⟩
   have HHE:=Jh hhe
   clear hhe
   cases hh
   ·go_wp2_with (first | (go_at_call 43;refine (holds_calls _ _ _ HV3.out).mono ?_;rw [HHE.out];rintro r w6 ⟨rfl,rfl⟩) | (((with_reducible show Js 31);refine wpList_store_blk rfl 31 _ _ rfl (K1.out.ext HB4) rfl (cs:=zeroE) rfl agg_E rfl rfl rfl ?_;intro w7 hb2 hg2)))
    refine post_ret_blk2 rfl rfl rfl hb2.has agg_E rfl rfl (.inl ⟨92,by rw [HS5.out,HHE.out];rfl,by omega,rfl,(HX.trans HB4).grown hg2 (by omega)⟩)
   ·go_wp2_with (first | (go_at_call 43;refine (holds_calls _ _ _ HV3.out).mono ?_;rw [HHE.out];rintro r w6 ⟨rfl,rfl⟩) | (((with_reducible show Js 31);refine wpList_store_blk rfl 31 _ _ rfl (K1.out.ext HB4) rfl (cs:=E.cells ⟨1,w2,v,0,0,0,0,[]⟩ (.slice Option.none 0 0)) rfl agg_E rfl rfl rfl ?_;intro w7 hb2 hg2)))
    refine post_ret_blk2 rfl rfl rfl hb2.has agg_E rfl rfl (.inr ⟨_,_,by rw [HS5.out,HHE.out];rfl,rfl,fun W _=>⟨_,rfl,Sl.nil _ _⟩,(HX.trans HB4).grown hg2 (by omega)⟩)
  ·have HS4:=HS3.out
   rw [if_neg hnum] at HS4
   have HS5:=Jh HS4
   clear HS4 HS3
   have HNUM:=Jh hnum
   go_cut [31] (fun u wr=>u=.bool false/\Ext w0 wr)
   case first =>
    by_cases ho1:op=1
    ·have b1:(op==1)=true:=by rw [beq_iff_eq];exact ho1
     have b2:(ewd==0)=false:=by rw [beq_eq_false_iff_ne];exact fun h=>hnum ⟨ho1,h⟩
     clear ho1 hnum
     go_wp2_with fail
     go_meet
     case rel=>exact ⟨rfl,HB4⟩
    ·have b1:(op==1)=false:=by rw [beq_eq_false_iff_ne];exact ho1
     clear ho1 hnum
     go_wp2_with fail
     go_meet
     case rel=>exact ⟨rfl,HB4⟩
   case rest =>
    obtain ⟨rfl,hB5⟩:=hcut
    go_upto_region 11 with (first | ((with_reducible show Jl 31);refine Jm 31 ((K0.out.ext hB5).has) agg_E rfl ?_) | (go_at_call 119;refine ((HWA _ _).out hB5).mono ?_;rintro r w6 hw6;rcases hw6 with ⟨hw1,rfl,hx6⟩ | ⟨ps,Bp,hw1,hpl,rfl,hbp,hx6⟩))
    all_goals have HW1:=Jh hw1
    all_goals clear hw1
    ·go_wp2_with (first | (((with_reducible show Js 31);refine wpList_store_blk rfl 31 _ _ rfl (K1.out.ext (hB5.trans hx6)) rfl (cs:=zeroE) rfl agg_E rfl rfl rfl ?_;intro w7 hb2 hg2)))
     refine post_ret_blk2 rfl rfl rfl hb2.has agg_E rfl rfl (.inl ⟨90,by rw [HS5.out,HW1.out],by omega,rfl,(HX.trans (hB5.trans hx6)).grown hg2 (by omega)⟩)
    have HS6:=HS5.out
    rw [HW1.out] at HS6
    have HS7:=Jh HS6
    clear HS6 HS5 HW1
    have HB6:=hB5.trans hx6
    clear hB5 hx6 HB4
    have KP:=Jh hbp
    clear hbp f0 f1 f2
    have f7:=(K0.out.ext HB6).has 7 _ rfl
    have hmk:madeCells (Value.cells (.agg zeroE.toArray)) (l.length*8)=(List.replicate l.length zeroE).flatten.toArray:=madeCells_E _
    have HMK:=Jh hmk
    clear hmk
    have KP2:=Jh (KP.out.alloc (.cells (List.replicate l.length zeroE).flatten.toArray 31))
    have KM:=Jh (Blk.new w6 (List.replicate l.length zeroE).flatten.toArray 31)
    have HB7:=HB6.alloc (.cells (List.replicate l.length zeroE).flatten.toArray 31)
    go_upto_region 14 with (first | (at_make;refine wpList_mk rfl 29 _ _ rfl rfl rfl Tryz.underlying29 info_E (by omega) (by omega) ?_;rw [HMK.out]))
    have hM0:w0.heap.size<=w6.heap.size:=HB6.size
    have hPM:=KP.out.lt
    have hM7:w6.heap.size<(w6.alloc (.cells (List.replicate l.length zeroE).flatten.toArray 31)).heap.size:=by rw [World.size_alloc];omega
    generalize hMM:w6.heap.size=M at *
    generalize w6.alloc _=w7 at *
    have f8:=(K0.out.ext HB7).has 7 _ rfl
    clear f7 hMM KP HB6 HNUM hnum L0
    go_wp2_with fail
    go_loopw [9,10,11,12,59] (fun _ _ _ _ i wr=>∃ k css r,i=.int .i64 (k:Nat)/\SizeRel w7 M l ps k css r wr) (fun _ _ _ _ i _=>l.length-(intOf i).toNat)
    case atStart=>exact ⟨0,[],[],rfl,.zero KM.out⟩
    case round =>
     obtain ⟨k,css,rr,rfl,hR⟩:=hrel
     have HSR:=Jh hR
     have hk:=hR.le
     have HBr:Ext w0 wr:=Below.trans HB7 (Below.mono hR.below hM0)
     have hwr:w7.heap.size<=wr.heap.size:=hR.below.size
     clear hR
     by_cases hlt:k<l.length
     ·obtain ⟨cs,he1,h8,hve⟩:=VE.get (HR.out.mono fun x _ b o h=>EAt.ext' (HX.trans HBr) h) hlt
      obtain rfl:=HA.out (by omega)
      have hps:k<ps.length:=by omega
      have hone:=hve.one
      have HVE:=Jh hve
      have HE1:=Jh he1
      clear hve he1
      go_upto_region 17 with (first | ((with_reducible show Jl 31);refine Jm 31 (HE1.out) agg_E h8 ?_) | ((with_reducible show Js 31);refine wpList_store_new rfl 31 _ _ rfl rfl (by first | rfl | simp) rfl agg_E (h8) rfl (hone) ?_))
      have HBX:=Has.alloc wr cs 31
      have hBX:=ext_alloc wr (.cells cs.toArray 31)
      have hsz:(wr.alloc (.cells cs.toArray 31)).heap.size=wr.heap.size+1:=World.size_alloc _ _
      generalize wr.alloc (.cells cs.toArray 31)=wb at *
      have hPB:Blk wb Bp (ints ps).toArray 3:=(show Blk wr Bp (ints ps).toArray 3 from (HSR.out.below.block Bp hPM).trans KP2.out).ext hBX
      have hpk:Has wb Bp k [.int .i64 ps[k]]:=by intro j u hj;cases j with | zero=>(simp at hj;subst hj;rw [hPB.cell];simp [ints,hps]) | succ j=>simp at hj
      have hCALL:∀ W,Hid (Ext wb W->Calls Tryz.prog 90 #[.agg cs.toArray,.int .i64 ps[k]] W (SizePost W (sizeE l[k] ps[k]))):=fun W=>Jh fun hx =>
       IH.out _ (List.getElem_mem hlt) _ _ W (HVE.out.ext (hBX.trans hx)) (((E.wf_iff _).1 HWF.out).2.2.2.2.2.2.2 _ (List.getElem_mem hlt)) (((OwnOk_iff _).1 HOK.out).2.2.2 _ (List.getElem_mem hlt)) (by have h1:=le_sumBy nodes l _ (List.getElem_mem hlt);omega)
      simp only [Act.put]
      go_cut [11,12] (fun u f wc=>CallOut wb (sizeE l[k] ps[k]) u f wc)
      case first =>
       refine wp_region_held_drew (S:=fun W=>(Has W wr.heap.size 0 cs/\Has W Bp k [.int .i64 ps[k]])/\Ext wb W) (by kernel_rfl) ⟨⟨HBX,hpk⟩,Below.drew (Below.refl _ _)⟩ (fun hH=>?_)
       (refine Jt 0 (.agg cs.toArray) rfl (yif_load rfl 31 _ rfl rfl (fun _ h=>h.1.1) agg_E h8) hH ?_;try simp only [Act.put,Ja,Je,Jf])
       (refine Jt 1 (_) rfl (yif_load1 rfl fun _ _=>rfl) hH ?_;try simp only [Act.put,Ja,Je,Jf])
       (refine Jt 2 (_) rfl (yif_load1 rfl fun _ _=>rfl) hH ?_;try simp only [Act.put,Ja,Je,Jf])
       (refine Jt 3 (.pointer (some ⟨Bp,k,Option.none⟩)) rfl (yif_load1 rfl (by intro W hW;go_simp)) hH ?_;try simp only [Act.put,Ja,Je,Jf])
       (refine Jt 4 (.int .i64 ps[k]) rfl (yif_load1 rfl (by intro W hW;have hw:W.cell? ⟨Bp,k,Option.none⟩=some (.int .i64 ps[k]):=hW.1.2 0 _ rfl;clear hW;go_simp)) hH ?_;try simp only [Act.put,Ja,Je,Jf])
       refine wpAnyH_ready (rs:=[5,9]) (by kernel_rfl) (by simp) ?_
       refine AllReadyH.cons rfl (fun K hK=>?_) (AllReadyH.cons rfl (fun K hK=>?_) AllReadyH.nil)
       ·go_simp
        refine ((hCALL _).out hH.2).mono ?_
        rintro r w9 hp
        obtain ⟨cs',g,rfl,h8',hone',hx9,ho⟩:=hp.open
        refine hK.out _ _ ⟨⟨hH.1.1.ext hx9,hH.1.2.ext hx9⟩,hH.2.trans hx9⟩ (fun hH=>?_)
        clear hK K
        try simp only [Act.put,Ja,Je,Jf]
        (refine Jt 6 (_) rfl (yif_load1 rfl fun _ _=>rfl) hH ?_;try simp only [Act.put,Ja,Je,Jf])
        (refine Jt 7 (_) rfl (yif_load1 rfl fun _ _=>rfl) hH ?_;try simp only [Act.put,Ja,Je,Jf])
        (refine Jt 8 (_) rfl (yif_load1 rfl fun _ _=>rfl) hH ?_;try simp only [Act.put,Ja,Je,Jf])
        refine Jr 9 rfl fun K hK=>?_
        go_simp
        have hex:=ext_alloc w9 (.cells zeroE.toArray 31)
        have hnb:=Blk.new w9 zeroE.toArray 31
        refine hK.out _ _ ⟨⟨hH.1.1.ext hex,hH.1.2.ext hex⟩,hH.2.trans hex⟩ (fun hH=>?_)
        clear hK K
        try simp only [Act.put,Ja,Je,Jf]
        generalize w9.alloc _=wa at *
        refine Jr 10 rfl fun K hK=>?_
        refine step_store_blk rfl 31 _ _ rfl hnb rfl (cs:=cs') rfl agg_E h8' rfl hone' ?_
        intro wz hbz hgz
        have hxz:Ext w9 wz:=hex.grown hgz (Nat.le_refl _)
        have hxb:Ext wb wz:=(Below.drew (Below.refl _ _):Ext wb wb.drew).trans (hx9.trans hxz)
        refine hK.out _ _ ⟨⟨HBX.ext hxb,hpk.ext hxb⟩,hxb⟩ (fun hH=>?_)
        clear hK K
        try simp only [Act.put,Ja,Je,Jf]
        (refine Jt 11 (_) rfl (yif_load1 rfl fun _ _=>rfl) hH ?_;try simp only [Act.put,Ja,Je,Jf])
        refine Jz ?_
        go_wp2_with fail
        go_meet
        case rel=>exact ⟨_,cs',g,rfl,rfl,hbz.has,h8',hone',hxb,ho.imp (fun ⟨h1,y,h2,h3⟩=>⟨h1,y,h2,h3.ext hxz⟩) id⟩
       ·go_simp
        have hex:=ext_alloc wb (.cells zeroE.toArray 31)
        have hnb:=Blk.new wb zeroE.toArray 31
        refine hK.out _ _ ⟨⟨HBX.ext hex.drew,hpk.ext hex.drew⟩,hex.drew⟩ (fun hH=>?_)
        clear hK K
        try simp only [Act.put,Ja,Je,Jf]
        refine Jr 5 rfl fun K hK=>?_
        go_simp
        refine ((hCALL _).out hH.2).mono ?_
        rintro r w9 hp
        obtain ⟨cs',g,rfl,h8',hone',hx9,ho⟩:=hp.open
        refine hK.out _ _ ⟨⟨hH.1.1.ext hx9,hH.1.2.ext hx9⟩,hH.2.trans hx9⟩ (fun hH=>?_)
        clear hK K
        try simp only [Act.put,Ja,Je,Jf]
        (refine Jt 6 (_) rfl (yif_load1 rfl fun _ _=>rfl) hH ?_;try simp only [Act.put,Ja,Je,Jf])
        (refine Jt 7 (_) rfl (yif_load1 rfl fun _ _=>rfl) hH ?_;try simp only [Act.put,Ja,Je,Jf])
        (refine Jt 8 (_) rfl (yif_load1 rfl fun _ _=>rfl) hH ?_;try simp only [Act.put,Ja,Je,Jf])
        refine Jr 10 rfl fun K hK=>?_
        refine step_store_blk rfl 31 _ _ rfl (hnb.drew.ext hx9) (by rw [hsz];rfl) (cs:=cs') rfl agg_E h8' rfl hone' ?_
        intro wz hbz hgz
        have hxb:Ext wb wz:=hH.2.grown hgz (Nat.le_refl _)
        refine hK.out _ _ ⟨⟨HBX.ext hxb,hpk.ext hxb⟩,hxb⟩ (fun hH=>?_)
        clear hK K
        try simp only [Act.put,Ja,Je,Jf]
        (refine Jt 11 (_) rfl (yif_load1 rfl fun _ _=>rfl) hH ?_;try simp only [Act.put,Ja,Je,Jf])
        refine Jz ?_
        go_wp2_with fail
        go_meet
        case rel=>exact ⟨_,cs',g,by rw [hsz],rfl,hbz.has,h8',hone',hxb,ho.imp (fun ⟨h1,y,h2,h3⟩=>⟨h1,y,h2,(h3.since (Since.of_grown hgz (by simp [World.size_alloc,World.drew]))).mono (by simp [World.size_alloc,World.drew])⟩) id⟩
      case rest =>
       obtain ⟨B,cs',g,rfl,rfl,hbox,h8',hone',hxc,ho⟩:=hcut
       have hpk2:ps[k]?.getD 0=ps[k]:=by simp [hps]
       have hxr:=hBX.trans hxc
       rcases ho with ⟨rfl,y,hy,hf⟩ | ⟨hg,hy⟩
       ·have hblk:=HSR.out.blk.ext hxr
        rw [rep_flat hlt,<-List.append_assoc] at hblk
        have hoff:css.flatten.length=k*8:=by rw [flat_len HSR.out.cells,HSR.out.len]
        have HBL:=Jh hblk
        have HBO:=Jh hbox
        have HY:=Jh hy
        clear hblk hbox hy
        go_wp2_with (first | ((with_reducible show Jl 31);refine Jm 31 (HBO.out) agg_E h8' ?_) | (((with_reducible show Js 31);refine wpList_store_row rfl 31 _ _ rfl HBL.out rfl hoff (cs:=cs') rfl agg_E h8' rfl hone' ?_;intro wx hbx hgx)))
        go_roundw
        case rel=>exact ⟨k+1,_,_,rfl,HSR.out.step hlt (by rw [hpk2];exact HY.out) (hf.mono (by omega)) hxr hbx hgx⟩
        case measure=>simp [intOf];omega
       ·have g1:(g != 0)=true:=by rw [bne_iff_ne];omega
        have HY:=Jh hy
        clear hy
        go_wp2_with (first | (((with_reducible show Js 31);refine wpList_store_blk rfl 31 _ _ rfl (K1.out.ext (HBr.trans hxr)) rfl (cs:=zeroE) rfl agg_E rfl rfl rfl ?_;intro w7 hb2 hg2)))
        refine post_ret_blk2 rfl rfl rfl hb2.has agg_E rfl rfl (.inl ⟨g,by rw [HS7.out,sizeL_error l k ps hlt rr HSR.out.model g (by rw [hpk2];exact HY.out)],hg,rfl,(HX.trans (HBr.trans hxr)).grown hg2 (by omega)⟩)
     ·obtain rfl:k=l.length:=by omega
      have hmod:=HSR.out.model
      rw [List.take_length] at hmod
      have hS8:=HS7.out
      rw [hmod] at hS8
      have HS8:=Jh hS8
      clear hS8 hmod HS7
      have hbx:=K0.out.ext HBr
      have HBX:=Jh hbx
      have e0:=hbx.has 0 _ rfl
      have e6:=hbx.has 6 _ rfl
      clear hbx
      go_upto_region 22 with fail
      go_cut [110] (fun u wz=>∃ t,u=.bool t/\(t=true↔op=8/\(n=33/\sizeE.hdW rr<w2\/n≠33/\w2<sizeE.hdW rr))/\Ext wr wz)
      case first =>
       by_cases o8:op=8
       ·have eh:=HSR.out.head (((OwnOk_iff _).1 HOK.out).2.2.1 (by simp [o8]))
        have hlen1:0<l.length:=((OwnOk_iff _).1 HOK.out).2.2.1 (by simp [o8])
        have b1:(op==8)=true:=by rw [beq_iff_eq];exact o8
        have O8:=Jh o8
        clear o8
        by_cases n33:n=33
        ·have b2:(n==33)=true:=by rw [beq_iff_eq];exact n33
         have b3:(n != 33)=false:=by rw [bne_eq_false_iff_eq];exact n33
         have N33:=Jh n33
         clear n33
         by_cases hc:sizeE.hdW rr<w2
         ·go_wp2_with fail
          go_meet
          case rel=>exact ⟨_,rfl,by simp [O8.out,N33.out,hc],Below.refl _ _⟩
         ·go_wp2_with fail
          go_meet
          case rel=>exact ⟨_,rfl,by simp [O8.out,N33.out];omega,Below.refl _ _⟩
        ·have b2:(n==33)=false:=by rw [beq_eq_false_iff_ne];exact n33
         have b3:(n != 33)=true:=by rw [bne_iff_ne];exact n33
         have N33:=Jh n33
         clear n33
         by_cases hc:w2<sizeE.hdW rr
         ·go_wp2_with fail
          go_meet
          case rel=>exact ⟨_,rfl,by simp [O8.out,N33.out,hc],Below.refl _ _⟩
         ·go_wp2_with fail
          go_meet
          case rel=>exact ⟨_,rfl,by simp [O8.out,N33.out];omega,Below.refl _ _⟩
       ·have b1:(op==8)=false:=by rw [beq_eq_false_iff_ne];exact o8
        have O8:=Jh o8
        clear o8
        go_wp2_with fail
        go_meet
        case rel=>exact ⟨false,rfl,by simp [O8.out],Below.refl _ _⟩
      case rest =>
       obtain ⟨t,rfl,ht,hx⟩:=hcut
       have HT:=Jh ht
       clear ht
       have hK1M:w.heap.size+1<w0.heap.size:=K1.out.lt
       cases t
       ·have hb0:=HBX.out.ext hx
        have hfr:=hb0.frozen
        have z1:=hb0.has 1 _ rfl
        have z7:=hb0.has 7 _ rfl
        have r1:=hfr 1
        have r7:=hfr 7
        go_upto_region 25 with fail
        have hb1:=(hb0.set 1 (.int .i64 w2)).set 7 (.slice (some ⟨M,0,Option.none⟩) l.length l.length)
        have hb2:Blk _ w.heap.size (E.cells ⟨op,w2,v,sig,hi,lo,n,rr⟩ (.slice (some ⟨M,0,Option.none⟩) l.length l.length)).toArray 31:=hb1
        have hg1:=gb_trans (gb_set wc w.heap.size 1 (.int .i64 w2)) (gb_set _ w.heap.size 7 (.slice (some ⟨M,0,Option.none⟩) l.length l.length))
        have hk1:=(K1.out.ext (HBr.trans hx)).grown hg1 (by omega)
        have hsi:Since M wr _:=(Since.of_ext hx).trans (Since.of_grown hg1 (by omega))
        have hex:=(HX.trans (HBr.trans hx)).grown hg1 (Nat.le_refl _)
        clear hb1 hb0 hfr z1 z7 r1 r7 hg1
        generalize (wc.setCell _ _).setCell _ _=wy at *
        go_wp2_with (first | ((with_reducible show Jl 31);refine Jm 31 (hb2.has) agg_E rfl ?_) | (((with_reducible show Js 31);refine wpList_store_blk rfl 31 _ _ rfl hk1 rfl (cs:=E.cells ⟨op,w2,v,sig,hi,lo,n,rr⟩ (.slice (some ⟨M,0,Option.none⟩) l.length l.length)) rfl agg_E rfl rfl rfl ?_;intro w7 hb5 hg5)))
        refine post_ret_blk2 rfl rfl rfl hb5.has agg_E rfl rfl (.inr ⟨_,_,by rw [HS8.out];exact if_neg (fun h=>by simpa using HT.out.2 h),rfl,fun W hW=>⟨_,rfl,HSR.out.es (hsi.trans ((Since.of_grown hg5 (by omega)).trans (hW.mono (by omega)))) (by omega)⟩,hex.grown hg5 (by omega)⟩)
       ·go_wp2_with (first | (((with_reducible show Js 31);refine wpList_store_blk rfl 31 _ _ rfl (K1.out.ext (HBr.trans hx)) rfl (cs:=zeroE) rfl agg_E rfl rfl rfl ?_;intro w7 hb2 hg2)))
        refine post_ret_blk2 rfl rfl rfl hb2.has agg_E rfl rfl (.inl ⟨90,by rw [HS8.out];exact if_pos (HT.out.1 (by trivial)),by omega,rfl,(HX.trans (HBr.trans hx)).grown hg2 (by omega)⟩)
end Go.Proofs.YtpngepnfinbaoaaGreat
