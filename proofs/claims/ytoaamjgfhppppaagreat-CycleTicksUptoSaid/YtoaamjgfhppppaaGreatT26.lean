/- Laws and walks that a claim of this seat leans on: Live, Live13L, WordsF, Cnt13, RowR. -/
import Derived.Test.YtoaamjgfhppppaaGreatTLint
import Derived.Test.YtoaamjgfhppppaaGreatT25
import Derived.Test.YtoaamjgfhppppaaGreatT23
import Derived.Test.YtoaamjgfhppppaaGreatT03
import Derived.Test.YtoaamjgfhppppaaGreatT17
import Derived.Test.YtoaamjgfhppppaaGreatT06
import Derived.Test.YtoaamjgfhppppaaGreatT00
set_option maxRecDepth 100000
set_option maxHeartbeats 8000000
set_option linter.all false
namespace Go.Proofs.YtoaamjgfhppppaaGreat
open Go.RowKit
/-! ### what is found, so that the kernel can count it -/
def insI (x:Int):List Int->List Int
 | []=>[x]
 | y::l=>if x<y then x::y::l else if x=y then y::l else y::insI x l
def setF (l:List Int):List Int:=l.foldr insI []
theorem insI_mem (x z:Int) (l:List Int):z∈insI x l↔z=x\/z∈l:=by
 induction l with
 | nil=>simp [insI]
 | cons y l ih =>
  rw [insI]
  split
  ·simp
  ·split
   ·rename_i h;subst h;simp
   ·simp [ih]
    constructor
    ·rintro (h | h | h)<;>simp [h]
    ·rintro (h | h | h)<;>simp [h]
theorem insI_lt (x:Int) (l:List Int) (h:l.Pairwise (·<·)):(insI x l).Pairwise (·<·):=by
 induction l with
 | nil=>simp [insI]
 | cons y l ih =>
  obtain ⟨h1,h2⟩:=List.pairwise_cons.1 h
  rw [insI]
  split
  ·rename_i hxy
   refine List.pairwise_cons.2 ⟨fun z hz=>?_,h⟩
   rcases List.mem_cons.1 hz with e | hz
   ·omega
   ·have:=h1 z hz;omega
  ·split
   ·exact h
   ·rename_i h3 h4
    refine List.pairwise_cons.2 ⟨fun z hz=>?_,ih h2⟩
    rcases (insI_mem x z l).1 hz with e | hz
    ·omega
    ·exact h1 z hz
theorem setF_spec (l:List Int):(setF l).Pairwise (·<·)/\∀ z,z∈setF l↔z∈l:=by
 induction l with
 | nil=>simp [setF]
 | cons x l ih =>
  refine ⟨insI_lt x _ ih.1,fun z=>?_⟩
  show z∈insI x (setF l)↔_
  rw [insI_mem,ih.2];simp
theorem setI_F (l:List Int):setI l=setF l:=setI_eq l _ (setF_spec l).1 fun x=>((setF_spec l).2 x).symm
def numbersF (offs:List Int) (xs:List Span):List Int:=setF (allNums offs xs)
theorem numbersM_F (offs:List Int) (xs:List Span):numbersM offs xs=numbersF offs xs:=by rw [numbersM_set,setI_F];rfl
def altF (offs:List Int):T->List Int × List Int
 | ⟨op,sig,hi,lo,_,l⟩ =>
  let r:=setF (fsts l)
  (if op=1 then numbersF offs [⟨sig,hi,lo⟩] else if op=2\/op=3 then metM (snds l) else r,r)
where
 fsts:List T->List Int
  | []=>[]
  | t::l=>(altF offs t).1++fsts l
 snds:List T->List (List Int)
  | []=>[]
  | t::l=>(altF offs t).2::snds l
theorem altT_F (offs:List Int) (t:T):altT offs t=altF offs t:=by
 induction t using T.ind with
 | h t ih =>
  obtain ⟨op,sig,hi,lo,e,l⟩:=t
  simp only at ih
  have h1:altT.fsts offs l=altF.fsts offs l:=by
   clear e
   induction l with
   | nil=>rfl
   | cons y l ih2 =>
    rw [altT.fsts,altF.fsts,ih y (by simp),ih2 fun z hz=>ih z (by simp [hz])]
  have h2:altT.snds offs l=altF.snds offs l:=by
   clear h1 e
   induction l with
   | nil=>rfl
   | cons y l ih2 =>
    rw [altT.snds,altF.snds,ih y (by simp),ih2 fun z hz=>ih z (by simp [hz])]
  simp only [altT,altF,h1,h2,setI_F,numbersM_F]
def writesF (d:Flat) (p:Int):List Int:=numbersF (offsD d) (spansW (procL d p))
def readsF (d:Flat) (p:Int):List Int:=numbersF (offsD d) (spansR d.signals (procL d p))
def alwaysF (d:Flat) (p:Int):List Int:=setF ((procL d p).map fun t=>(altF (offsD d) t).1).flatten
theorem writesM_F (d:Flat) (p:Int):writesM d p=writesF d p:=numbersM_F _ _
theorem readsM_F (d:Flat) (p:Int):readsM d p=readsF d p:=numbersM_F _ _
theorem alwaysM_F (d:Flat) (p:Int):alwaysM d p=alwaysF d p:=by
 unfold alwaysM alwM alwaysF alwP alt
 rw [setI_F]
 congr 2
 exact List.map_congr_left fun t _=>by rw [altT_F]
def drvF (d:Flat):Int × List Int:=if checkM d=0 then (match drvM (nBits d).toNat ((List.range d.procs.length).map fun (p:Nat)=>writesF d (p:Int)) with | none=>(120,[]) | some o=>(0,o)) else (1,[])
theorem drvD_F (d:Flat):drvD d=drvF d:=by
 unfold drvD drvF wsM
 simp only [writesM_F]
 by_cases h:checkM d=0
 ·rw [if_pos h,if_pos h]
  split<;>simp_all
 ·rw [if_neg h,if_neg h]
def graphF (d:Flat) (by':List Int):List (List Int):=hangM by' (clks d) ((List.range d.procs.length).map fun (p:Nat)=>readsF d (p:Int))
theorem graphM_F (d:Flat) (by':List Int):graphM d by'=graphF d by':=by
 unfold graphM graphF rsM
 simp only [readsM_F]
def latFF (d:Flat):Nat->List Proc->Bool
 | _,[]=>false
 | p,x::l=>if (!x.clocked&&!decide ((writesF d (p:Int)).length=(alwaysF d (p:Int)).length))=true then true else latFF d (p+1) l
theorem latF_F (d:Flat) (l:List Proc):∀ p,latF d p l=latFF d p l:=by
 induction l with
 | nil=>intro p;rfl
 | cons x l ih=>intro p;rw [latF,latFF,ih,writesM_F,alwaysM_F]
def lookF (d:Flat):Int × List (List Int) × List Int :=
 if (drvF d).1=0 then
  if noneF d.signals (drvF d).2 0 d.signals=true then (121,[],[])
  else if latFF d 0 d.procs=true then (122,[],[])
  else if (ordM (graphF d (drvF d).2) (clks d)).length<wiresM (clks d) then (123,[],[])
  else (0,graphF d (drvF d).2,ordM (graphF d (drvF d).2) (clks d))
 else ((drvF d).1,[],[])
theorem lookM_F (d:Flat):lookM d=lookF d:=by
 unfold lookM lookF
 rw [drvD_F,latF_F,graphM_F]
 by_cases h:(drvF d).1=0
 ·rw [if_neg (by simp [h]),if_pos h]
 ·rw [if_pos h,if_neg h]
/-! ### the chapter's example -/
def sigE (s:Int):E:=⟨2,1,0,s,0,0,0,[]⟩
def setP (s:Int) (e:E):Proc:=⟨false,[⟨1,s,0,0,[e],[]⟩]⟩
def bytesOf (l:List UInt8):ByteArray:=⟨l.toArray⟩
def liveS:List Signal:=[⟨bytesOf [97],1,1,0⟩,⟨bytesOf [98],1,1,0⟩,⟨bytesOf [121],1,2,0⟩,⟨bytesOf [119],1,3,0⟩]
def liveY:Proc:=setP 2 ⟨5,1,0,0,0,0,11,[sigE 0,sigE 3]⟩
def liveD:Flat:=⟨liveS,[liveY,setP 3 (sigE 1)],[]⟩
def liveTwo:Flat:=⟨liveS,[liveY,setP 3 (sigE 1),setP 3 (sigE 2)],[]⟩
def liveLoop:Flat:=⟨liveS,[liveY,setP 3 (sigE 2)],[]⟩
def liveOne:Flat:=⟨liveS,[liveY],[]⟩
set_option maxRecDepth 100000
def q13:E:=⟨2,2,0,0,1,0,0,[]⟩
def one13:E:=⟨1,2,1,0,0,0,0,[]⟩
def inc13:E:=⟨5,2,0,0,0,0,14,[q13,one13]⟩
def any13:E:=⟨4,1,0,0,0,0,4,[q13]⟩
def t13a:T:=⟨1,0,1,0,[inc13],[]⟩
def t13b:T:=⟨1,1,1,0,[q13],[]⟩
def d13:Flat:=⟨[⟨⟨#[113]⟩,2,4,0⟩,⟨⟨#[121]⟩,2,2,0⟩],[⟨true,[t13a]⟩,⟨false,[t13b]⟩],[⟨⟨#[99]⟩,any13⟩]⟩
theorem d13_look:lookM d13=(0,[[],[]],[1]):=by rw [lookM_F];decide +kernel
def cycO (d:Flat) (o:List Int):List (List Nat)->List Nat->Option (List (List Nat) × List (List Bool))
 | [],_=>some ([],[])
 | i::ins,v=>match putM d.signals v i with
  | none=>none
  | some w=>(cycO d o ins (tickM d (runAll d o w))).map fun r=>(outV d.signals (runAll d o w)::r.1,chkV d (runAll d o w)::r.2)
theorem cycM_O (d:Flat):∀ (ins:List (List Nat)) (v:List Nat),cycM d ins v=cycO d (lookM d).2.2 ins v:=by
 intro ins
 induction ins with
 | nil=>intro v;rfl
 | cons i ins ih =>
  intro v
  rw [cycM,cycO]
  cases putM d.signals v i with
  | none=>rfl
  | some w=>simp only [ih];rfl
theorem d13_run:cycR d13 [[],[],[],[],[]]=([[0],[1],[2],[3],[0]],[[false],[true],[true],[true],[false]],0):=by
 unfold cycR
 rw [if_pos (by rw [d13_look]),cycM_O,d13_look,show cycO d13 [1] [[],[],[],[],[]] (resetM d13)=some ([[0],[1],[2],[3],[0]],[[false],[true],[true],[true],[false]]) by decide +kernel]
theorem d13_bad:cycR d13 [[1]]=([],[],1):=by
 unfold cycR
 rw [if_pos (by rw [d13_look]),cycM_O,d13_look,show cycO d13 [1] [[1]] (resetM d13)=none by decide +kernel]
theorem d13_reset:resetR d13=([0,0],0):=by
 unfold resetR
 rw [if_pos (by rw [d13_look]),show resetM d13=[0,0] by decide +kernel]
theorem d13_play (v:List Nat) (h:valsOk d13 v=true):playE d13 v=0:=playE_zero.2 ⟨by rw [d13_look],h⟩
theorem d13_tick:tickR d13 [3,1]=([0,1],0):=by
 unfold tickR
 rw [if_pos (d13_play _ (by decide +kernel)),show tickM d13 [3,1]=[0,1] by decide +kernel]
theorem d13_settle:settleR d13 [2,1]=([2,2],0):=by
 unfold settleR settleM
 rw [if_pos (d13_play _ (by decide +kernel)),d13_look,show runAll d13 [1] [2,1]=[2,2] by decide +kernel]
theorem d13_put:putR d13 [2,1] []=([2,1],0):=by
 unfold putR
 rw [if_pos (d13_play _ (by decide +kernel)),show putM d13.signals [2,1] []=some [2,1] by decide +kernel]
theorem d13_ok:d13.ok where
 wf:={
  signals:=by
   intro x hx
   simp [d13] at hx
   rcases hx with rfl | rfl<;>exact ⟨by unfold i64r;decide,by unfold i64r;decide,by unfold u64r;decide,by decide⟩
  procs:=by
   intro p hp t ht
   simp [d13] at hp
   rcases hp with rfl | rfl<;>(simp at ht;subst ht;simp [T.wf,T.wf.wfs,E.wf,E.wf.wfs,t13a,t13b,inc13,q13,one13,i64r,u64r])
  checks:=by intro c hc;simp [d13] at hc;subst hc;simp [E.wf,E.wf.wfs,any13,q13,i64r,u64r] }
 nodes:=by decide +kernel
 signals:=by decide
 procs:=by decide
 checks:=by decide
/-! ### filigreeref11.Words -/
theorem Words_calls11 (l r:List Nat) (v v':Value) (w:World) (h:Us w v l) (h':Us w v' r) (hn:l.length<=1099511627776) :
  Calls Tryz.prog 24 #[v,v'] w fun e w'=>e=.returned (.bool (decide (l=r)))/\Ext w w':=by
 obtain ⟨a,b,o,cap,rfl,hc1,hc2,ha,hr⟩:=h.open
 obtain ⟨a',b',o',cap',rfl,hd1,hd2,ha',hr'⟩:=h'.open
 have HR:=Jh hr
 have HA:=Jh ha
 have HR':=Jh hr'
 have HA':=Jh ha'
 clear hr ha h hr' ha' h'
 obtain ⟨t,ht⟩:∃ t,decide (l=r)=t:=⟨_,rfl⟩
 rw [ht]
 have HT:=Jh ht
 clear ht
 by_cases hlr:l.length=r.length
 ·have hlb:((l.length:Int) != (r.length:Int))=false:=by rw [bne_eq_false_iff_eq,hlr]
  have HLR:=Jh hlr
  obtain ⟨n,hnl⟩:∃ n,l.length=n:=⟨_,rfl⟩
  have HNL:=Jh hnl
  have HNR:=Jh (show r.length=n by rw [<-hlr];exact hnl)
  rw [<-hlr] at hd1 HA' ⊢
  rw [hnl] at hc1 hd1 HA HA' hn ⊢
  clear hlr hlb hnl
  go_enter Tryz.func24,Tryz.ntmps24
  go_wp2_with fail
  go_loopw [5] (fun i wr=>∃ k:Nat,k<=n/\i=.int .i64 k/\(∀ j,j<k->l[j]? = r[j]?)/\Ext w wr) (fun i _=>n-(intOf i).toNat)
  case atStart=>exact ⟨0,Nat.zero_le _,rfl,fun j hj=>absurd hj (by omega),Below.refl _ _⟩
  case round =>
   obtain ⟨k,hk,rfl,hsame,hx⟩:=hrel
   have HS:=Jh hsame
   have HX:=Jh hx
   clear hsame hx
   by_cases hlt:k<n
   ·obtain rfl:=HA.out (by omega)
    obtain rfl:=HA'.out (by omega)
    have HZ:=Jh (fun W (hx:Ext w W)=>Us.get (k:=k) (HR.out.mono fun x _ b o h=>Has.ext h hx) (by rw [HNL.out];exact hlt))
    have HZ':=Jh (fun W (hx:Ext w W)=>Us.get (k:=k) (HR'.out.mono fun x _ b o h=>Has.ext h hx) (by rw [HNR.out];exact hlt))
    have HE:=Jh (show l[k]? = some (l[k]'(by rw [HNL.out];exact hlt)) from List.getElem?_eq_getElem _)
    have HE':=Jh (show r[k]? = some (r[k]'(by rw [HNR.out];exact hlt)) from List.getElem?_eq_getElem _)
    generalize l[k]'_=x at *
    generalize r[k]'_=y at *
    go_upto_region 6 with fail
    refine wp_region_held_drew (S:=fun W=>Ext w W) (by kernel_rfl) (Below.drew HX.out) (fun hH=>?_)
    try simp only [J]
    (refine Jt 0 (_) rfl (yif_load1 rfl fun _ _=>rfl) hH ?_;try simp only [J])
    (refine Jt 1 (_) rfl (yif_load1 rfl fun _ _=>rfl) hH ?_;try simp only [J])
    (refine Jt 2 (.pointer (some ⟨b,o+k,Option.none⟩)) rfl (yif_load1 rfl (by intro W hW;clear hW;go_simp;try (intro h;omega))) hH ?_;try simp only [J])
    (refine Jt 3 (W64 x) rfl (yif_load1 rfl (by intro W hW;have y:=HZ.out W hW;clear hW;go_simp)) hH ?_;try simp only [J])
    (refine Jt 4 (_) rfl (yif_load1 rfl fun _ _=>rfl) hH ?_;try simp only [J])
    (refine Jt 5 (_) rfl (yif_load1 rfl fun _ _=>rfl) hH ?_;try simp only [J])
    (refine Jt 6 (.pointer (some ⟨b',o'+k,Option.none⟩)) rfl (yif_load1 rfl (by intro W hW;clear hW;go_simp;try (intro h;omega))) hH ?_;try simp only [J])
    (refine Jt 7 (W64 y) rfl (yif_load1 rfl (by intro W hW;have y:=HZ'.out W hW;clear hW;go_simp)) hH ?_;try simp only [J])
    obtain ⟨c,hc⟩:∃ c,((x:Int) != (y:Int))=c:=⟨_,rfl⟩
    have HC:=Jh hc
    clear hc
    (refine Jt 8 (.bool c) rfl (yif_load1 rfl (by intro W hW;clear hW;go_simp;exact HC.out)) hH ?_;try simp only [J])
    refine Jz ?_
    cases c
    ·have HXY:=Jh (show x=y by have:=HC.out;rw [bne_eq_false_iff_eq] at this;exact_mod_cast this)
     go_wp2_with fail
     go_roundw
     case rel=>exact ⟨k+1,hlt,by go_num,fun j hj=>by
      by_cases e:j=k
      ·subst e;rw [HE.out,HE'.out,HXY.out]
      ·exact HS.out j (by omega),hH⟩
     case measure=>simp [intOf];omega
    ·have HXY:=Jh (show x≠y by have:=HC.out;rw [bne_iff_ne] at this;exact fun e=>this (by rw [e]))
     obtain rfl:t=false:=by
      rw [<-HT.out,decide_eq_false_iff_not]
      intro e
      have h1:=HE.out
      rw [e,HE'.out] at h1
      injection h1 with h1
      exact HXY.out h1.symm
     go_wp2_with fail
     go_ret
     exact ⟨rfl,hH⟩
   ·obtain rfl:k=n:=by omega
    obtain rfl:t=true:=by
     rw [<-HT.out,decide_eq_true_eq]
     refine List.ext_getElem? fun j=>?_
     by_cases hj:j<k
     ·exact HS.out j hj
     ·rw [List.getElem?_eq_none (by rw [HNL.out];omega),List.getElem?_eq_none (by rw [HNR.out];omega)]
    go_wp2_with fail
    go_ret
    exact ⟨rfl,HX.out⟩
 ·obtain rfl:t=false:=by
   rw [<-HT.out,decide_eq_false_iff_not]
   intro e;exact hlr (by rw [e])
  have hlb:((l.length:Int) != (r.length:Int))=true:=by rw [bne_iff_ne];omega
  clear hlr
  go_enter Tryz.func24,Tryz.ntmps24
  go_wp2_with fail
  go_ret
  exact ⟨rfl,Below.refl _ _⟩
theorem newB (w:World) (cs:Array Value) (T:TypeId) {L:Nat} (hL:L<=w.heap.size):∃ W B,w.alloc (.cells cs T)=W/\w.heap.size=B/\L<=B/\B+1<=W.heap.size/\Ext w W/\Blk W B cs T :=
 ⟨_,_,rfl,rfl,hL,by rw [World.size_alloc];exact Nat.le_refl _,ext_alloc _ _,Blk.new _ _ _⟩
theorem counter_calls (w:World):Calls Tryz.prog 44 #[] w fun r w'=>∃ a b c,r=.returned (.agg #[.slice a 2 2,.slice b 2 2,.slice c 1 1])/\FlatV w' (.agg #[.slice a 2 2,.slice b 2 2,.slice c 1 1]) d13/\Ext w w':=by
 obtain ⟨w0,hw0⟩:∃ w0,w=w0:=⟨_,rfl⟩
 have HXW:=Jh (show Ext w w0 from hw0 ▸ Below.refl _ _)
 have HSZ:=Jh (show w.heap.size<=w0.heap.size by rw [hw0];exact Nat.le_refl _)
 suffices h:Calls Tryz.prog 44 #[] w0 fun r w'=>∃ a b c,r=.returned (.agg #[.slice a 2 2,.slice b 2 2,.slice c 1 1])/\FlatV w' (.agg #[.slice a 2 2,.slice b 2 2,.slice c 1 1]) d13/\Ext w w' from hw0 ▸ h
 clear hw0
 go_enter Tryz.func44,Tryz.ntmps44
 go_upto_region 1 with fail
 obtain ⟨w1,R,e,e2,hlR,hz,hx,hb⟩:=newB w0 ([.slice none 0 0,.slice none 0 0,.slice none 0 0]:List Value).toArray 26 HSZ.out
 rw [e,e2]
 replace HSZ:=Jh hz
 have X0:=Jh hx
 have HR:=Jh hb
 clear e e2 hx hb hz
 go_upto_region 2 with (first | ((with_reducible show Js 72);refine wpList_store_new rfl 72 _ _ rfl rfl (by first | rfl | simp) rfl agg_E (rfl) rfl (by simp [one_int,Value.oneCell']) ?_))
 obtain ⟨w2,Q,e,e2,hlQ,hz,hx,hb⟩:=newB w1 ([.int .i64 2,.int .i64 2,.int .u64 0,.int .i64 0,.int .i64 1,.int .i64 0,.int .i64 0,.slice none 0 0]:List Value).toArray 72 HSZ.out
 rw [e,e2]
 replace HSZ:=Jh hz
 have X1:=Jh hx
 have HQ:=Jh hb
 clear e e2 hx hb hz
 go_wp2_with (first | ((with_reducible show Jl 72);refine Jm 72 (HQ.out.has) agg_E rfl ?_) | ((with_reducible show Jw (Op.buildSlice _ _ _));refine Hid.out ?_))
 refine Jh ?_
 refine wpList_bsN rfl _ 2 _ rfl appE (vs:=[.agg ([.int .i64 2,.int .i64 2,.int .u64 0,.int .i64 0,.int .i64 1,.int .i64 0,.int .i64 0,.slice none 0 0]:List Value).toArray,.agg ([.int .i64 1,.int .i64 2,.int .u64 1,.int .i64 0,.int .i64 0,.int .i64 0,.int .i64 0,.slice none 0 0]:List Value).toArray]) rfl rfl (css:=[[.int .i64 2,.int .i64 2,.int .u64 0,.int .i64 0,.int .i64 1,.int .i64 0,.int .i64 0,.slice none 0 0],[.int .i64 1,.int .i64 2,.int .u64 1,.int .i64 0,.int .i64 0,.int .i64 0,.int .i64 0,.slice none 0 0]]) rfl (by intro cs h;simp at h;rcases h with rfl | rfl<;>rfl) (by decide) (by decide) ?_
 obtain ⟨w3,QS,e,e2,hlQS,hz,hx,hb⟩:=newB w2 ([[.int .i64 2,.int .i64 2,.int .u64 0,.int .i64 0,.int .i64 1,.int .i64 0,.int .i64 0,.slice none 0 0],[.int .i64 1,.int .i64 2,.int .u64 1,.int .i64 0,.int .i64 0,.int .i64 0,.int .i64 0,.slice none 0 0]]:List (List Value)).flatten.toArray 72 HSZ.out
 rw [e,e2]
 replace HSZ:=Jh hz
 have X2:=Jh hx
 have HQS:=Jh hb
 clear e e2 hx hb hz
 go_upto_region 3 with (first | ((with_reducible show Js 72);refine wpList_store_new rfl 72 _ _ rfl rfl (by first | rfl | simp) rfl agg_E (rfl) rfl (by simp [one_int,Value.oneCell']) ?_))
 obtain ⟨w4,I,e,e2,hlI,hz,hx,hb⟩:=newB w3 ([.int .i64 5,.int .i64 2,.int .u64 0,.int .i64 0,.int .i64 0,.int .i64 0,.int .i64 14,.slice (some ⟨QS,0,none⟩) 2 2]:List Value).toArray 72 HSZ.out
 rw [e,e2]
 replace HSZ:=Jh hz
 have X3:=Jh hx
 have HI:=Jh hb
 clear e e2 hx hb hz
 go_wp2_with (first | ((with_reducible show Jw (Op.buildSlice _ _ _));refine Hid.out ?_))
 refine Jh ?_
 refine wpList_bsN rfl _ 2 _ rfl appSignal (vs:=[.agg ([.string ⟨#[113]⟩,.int .i64 2,.int .i64 4,.int .u64 0]:List Value).toArray,.agg ([.string ⟨#[121]⟩,.int .i64 2,.int .i64 2,.int .u64 0]:List Value).toArray]) rfl rfl (css:=[[.string ⟨#[113]⟩,.int .i64 2,.int .i64 4,.int .u64 0],[.string ⟨#[121]⟩,.int .i64 2,.int .i64 2,.int .u64 0]]) rfl (by intro cs h;simp at h;rcases h with rfl | rfl<;>rfl) (by decide) (by decide) ?_
 obtain ⟨w5,S,e,e2,hlS,hz,hx,hb⟩:=newB w4 ([[.string ⟨#[113]⟩,.int .i64 2,.int .i64 4,.int .u64 0],[.string ⟨#[121]⟩,.int .i64 2,.int .i64 2,.int .u64 0]]:List (List Value)).flatten.toArray 41 HSZ.out
 rw [e,e2]
 replace HSZ:=Jh hz
 have X4:=Jh hx
 have HS:=Jh hb
 clear e e2 hx hb hz
 go_upto_region 4 with (first | ((with_reducible show Js 26);refine wpList_store_new rfl 26 _ _ rfl rfl (by first | rfl | simp) rfl agg_Flat (rfl) rfl (by simp [one_int,Value.oneCell']) ?_))
 obtain ⟨w6,D,e,e2,hlD,hz,hx,hb⟩:=newB w5 ([.slice (some ⟨S,0,none⟩) 2 2,.slice none 0 0,.slice none 0 0]:List Value).toArray 26 HSZ.out
 rw [e,e2]
 replace HSZ:=Jh hz
 have X5:=Jh hx
 have HD:=Jh hb
 clear e e2 hx hb hz
 go_wp2_with (first | ((with_reducible show Jl 72);refine Jm 72 ((HI.out.ext (X4.out.trans X5.out)).has) agg_E rfl ?_) | ((with_reducible show Jw (Op.buildSlice _ _ _));refine Hid.out ?_))
 refine Jh ?_
 refine wpList_bsN rfl _ 1 _ rfl appE (vs:=[.agg ([.int .i64 5,.int .i64 2,.int .u64 0,.int .i64 0,.int .i64 0,.int .i64 0,.int .i64 14,.slice (some ⟨QS,0,none⟩) 2 2]:List Value).toArray]) rfl rfl (css:=[[.int .i64 5,.int .i64 2,.int .u64 0,.int .i64 0,.int .i64 0,.int .i64 0,.int .i64 14,.slice (some ⟨QS,0,none⟩) 2 2]]) rfl (by intro cs h;simp at h;rcases h with rfl<;>rfl) (by decide) (by decide) ?_
 obtain ⟨w7,IS,e,e2,hlIS,hz,hx,hb⟩:=newB w6 ([[.int .i64 5,.int .i64 2,.int .u64 0,.int .i64 0,.int .i64 0,.int .i64 0,.int .i64 14,.slice (some ⟨QS,0,none⟩) 2 2]]:List (List Value)).flatten.toArray 72 HSZ.out
 rw [e,e2]
 replace HSZ:=Jh hz
 have X6:=Jh hx
 have HIS:=Jh hb
 clear e e2 hx hb hz
 go_wp2_with (first | ((with_reducible show Jw (Op.buildSlice _ _ _));refine Hid.out ?_))
 refine Jh ?_
 refine wpList_bsN rfl _ 1 _ rfl appT (vs:=[.agg ([.int .i64 1,.int .i64 0,.int .i64 1,.int .i64 0,.slice (some ⟨IS,0,none⟩) 1 1,.slice none 0 0]:List Value).toArray]) rfl rfl (css:=[[.int .i64 1,.int .i64 0,.int .i64 1,.int .i64 0,.slice (some ⟨IS,0,none⟩) 1 1,.slice none 0 0]]) rfl (by intro cs h;simp at h;rcases h with rfl<;>rfl) (by decide) (by decide) ?_
 obtain ⟨w8,TA,e,e2,hlTA,hz,hx,hb⟩:=newB w7 ([[.int .i64 1,.int .i64 0,.int .i64 1,.int .i64 0,.slice (some ⟨IS,0,none⟩) 1 1,.slice none 0 0]]:List (List Value)).flatten.toArray 97 HSZ.out
 rw [e,e2]
 replace HSZ:=Jh hz
 have X7:=Jh hx
 have HTA:=Jh hb
 clear e e2 hx hb hz
 go_wp2_with (first | ((with_reducible show Jl 72);refine Jm 72 ((HQ.out.ext (X2.out.trans (X3.out.trans (X4.out.trans (X5.out.trans (X6.out.trans X7.out)))))).has) agg_E rfl ?_) | ((with_reducible show Jw (Op.buildSlice _ _ _));refine Hid.out ?_))
 refine Jh ?_
 refine wpList_bsN rfl _ 1 _ rfl appE (vs:=[.agg ([.int .i64 2,.int .i64 2,.int .u64 0,.int .i64 0,.int .i64 1,.int .i64 0,.int .i64 0,.slice none 0 0]:List Value).toArray]) rfl rfl (css:=[[.int .i64 2,.int .i64 2,.int .u64 0,.int .i64 0,.int .i64 1,.int .i64 0,.int .i64 0,.slice none 0 0]]) rfl (by intro cs h;simp at h;rcases h with rfl<;>rfl) (by decide) (by decide) ?_
 obtain ⟨w9,Q1,e,e2,hlQ1,hz,hx,hb⟩:=newB w8 ([[.int .i64 2,.int .i64 2,.int .u64 0,.int .i64 0,.int .i64 1,.int .i64 0,.int .i64 0,.slice none 0 0]]:List (List Value)).flatten.toArray 72 HSZ.out
 rw [e,e2]
 replace HSZ:=Jh hz
 have X8:=Jh hx
 have HQ1:=Jh hb
 clear e e2 hx hb hz
 go_wp2_with (first | ((with_reducible show Jw (Op.buildSlice _ _ _));refine Hid.out ?_))
 refine Jh ?_
 refine wpList_bsN rfl _ 1 _ rfl appT (vs:=[.agg ([.int .i64 1,.int .i64 1,.int .i64 1,.int .i64 0,.slice (some ⟨Q1,0,none⟩) 1 1,.slice none 0 0]:List Value).toArray]) rfl rfl (css:=[[.int .i64 1,.int .i64 1,.int .i64 1,.int .i64 0,.slice (some ⟨Q1,0,none⟩) 1 1,.slice none 0 0]]) rfl (by intro cs h;simp at h;rcases h with rfl<;>rfl) (by decide) (by decide) ?_
 obtain ⟨w10,TB,e,e2,hlTB,hz,hx,hb⟩:=newB w9 ([[.int .i64 1,.int .i64 1,.int .i64 1,.int .i64 0,.slice (some ⟨Q1,0,none⟩) 1 1,.slice none 0 0]]:List (List Value)).flatten.toArray 97 HSZ.out
 rw [e,e2]
 replace HSZ:=Jh hz
 have X9:=Jh hx
 have HTB:=Jh hb
 clear e e2 hx hb hz
 go_wp2_with (first | ((with_reducible show Jw (Op.buildSlice _ _ _));refine Hid.out ?_))
 refine Jh ?_
 refine wpList_bsN rfl _ 2 _ rfl appProc (vs:=[.agg ([.bool true,.slice (some ⟨TA,0,none⟩) 1 1]:List Value).toArray,.agg ([.bool false,.slice (some ⟨TB,0,none⟩) 1 1]:List Value).toArray]) rfl rfl (css:=[[.bool true,.slice (some ⟨TA,0,none⟩) 1 1],[.bool false,.slice (some ⟨TB,0,none⟩) 1 1]]) rfl (by intro cs h;simp at h;rcases h with rfl | rfl<;>rfl) (by decide) (by decide) ?_
 obtain ⟨w11,P,e,e2,hlP,hz,hx,hb⟩:=newB w10 ([[.bool true,.slice (some ⟨TA,0,none⟩) 1 1],[.bool false,.slice (some ⟨TB,0,none⟩) 1 1]]:List (List Value)).flatten.toArray 49 HSZ.out
 rw [e,e2]
 replace HSZ:=Jh hz
 have X10:=Jh hx
 have HP:=Jh hb
 clear e e2 hx hb hz
 have hd:=(HD.out.ext (X6.out.trans (X7.out.trans (X8.out.trans (X9.out.trans X10.out)))))
 have x0:=hd.has 1 _ rfl
 have y0:=hd.frozen 1
 replace HD:=Jh (hd.set 1 (.slice (some ⟨P,0,none⟩) 2 2))
 have X11:=Jh (gb_set w11 D 1 (.slice (some ⟨P,0,none⟩) 2 2))
 clear hd
 go_upto_region 5 with fail
 replace HSZ:=Jh (Nat.le_trans HSZ.out X11.out.size)
 generalize w11.setCell _ _=w12 at *
 clear x0 y0
 go_wp2_with (first | ((with_reducible show Jl 72);refine Jm 72 (((HQ.out.ext (X2.out.trans (X3.out.trans (X4.out.trans (X5.out.trans (X6.out.trans (X7.out.trans (X8.out.trans (X9.out.trans X10.out))))))))).grown X11.out (by omega)).has) agg_E rfl ?_) | ((with_reducible show Jw (Op.buildSlice _ _ _));refine Hid.out ?_))
 refine Jh ?_
 refine wpList_bsN rfl _ 1 _ rfl appE (vs:=[.agg ([.int .i64 2,.int .i64 2,.int .u64 0,.int .i64 0,.int .i64 1,.int .i64 0,.int .i64 0,.slice none 0 0]:List Value).toArray]) rfl rfl (css:=[[.int .i64 2,.int .i64 2,.int .u64 0,.int .i64 0,.int .i64 1,.int .i64 0,.int .i64 0,.slice none 0 0]]) rfl (by intro cs h;simp at h;rcases h with rfl<;>rfl) (by decide) (by decide) ?_
 obtain ⟨w13,Q2,e,e2,hlQ2,hz,hx,hb⟩:=newB w12 ([[.int .i64 2,.int .i64 2,.int .u64 0,.int .i64 0,.int .i64 1,.int .i64 0,.int .i64 0,.slice none 0 0]]:List (List Value)).flatten.toArray 72 HSZ.out
 rw [e,e2]
 replace HSZ:=Jh hz
 have X12:=Jh hx
 have HQ2:=Jh hb
 clear e e2 hx hb hz
 go_wp2_with (first | ((with_reducible show Jw (Op.buildSlice _ _ _));refine Hid.out ?_))
 refine Jh ?_
 refine wpList_bsN rfl _ 1 _ rfl appCheck (vs:=[.agg ((.string ⟨#[99]⟩::[.int .i64 4,.int .i64 1,.int .u64 0,.int .i64 0,.int .i64 0,.int .i64 0,.int .i64 4,.slice (some ⟨Q2,0,none⟩) 1 1]):List Value).toArray]) rfl rfl (css:=[(.string ⟨#[99]⟩::[.int .i64 4,.int .i64 1,.int .u64 0,.int .i64 0,.int .i64 0,.int .i64 0,.int .i64 4,.slice (some ⟨Q2,0,none⟩) 1 1])]) rfl (by intro cs h;simp at h;rcases h with rfl<;>rfl) (by decide) (by decide) ?_
 obtain ⟨w14,C,e,e2,hlC,hz,hx,hb⟩:=newB w13 ([(.string ⟨#[99]⟩::[.int .i64 4,.int .i64 1,.int .u64 0,.int .i64 0,.int .i64 0,.int .i64 0,.int .i64 4,.slice (some ⟨Q2,0,none⟩) 1 1])]:List (List Value)).flatten.toArray 118 HSZ.out
 rw [e,e2]
 replace HSZ:=Jh hz
 have X13:=Jh hx
 have HC:=Jh hb
 clear e e2 hx hb hz
 have hd:=(HD.out.ext (X12.out.trans X13.out))
 have x0:=hd.has 2 _ rfl
 have y0:=hd.frozen 2
 replace HD:=Jh (hd.set 2 (.slice (some ⟨C,0,none⟩) 1 1))
 have X14:=Jh (gb_set w14 D 2 (.slice (some ⟨C,0,none⟩) 1 1))
 clear hd
 go_upto_region 6 with fail
 replace HSZ:=Jh (Nat.le_trans HSZ.out X14.out.size)
 generalize w14.setCell _ _=w15 at *
 clear x0 y0
 replace HD:=Jh (show Blk w15 D ([.slice (some ⟨S,0,none⟩) 2 2,.slice (some ⟨P,0,none⟩) 2 2,.slice (some ⟨C,0,none⟩) 1 1]:List Value).toArray 26 from HD.out)
 go_wp2_with (first | ((with_reducible show Jl 26);refine Jm 26 (HD.out.has) agg_Flat rfl ?_) | ((with_reducible show Js 26);refine wpList_store_blk rfl 26 _ _ rfl ((((HR.out.ext (X1.out.trans (X2.out.trans (X3.out.trans (X4.out.trans (X5.out.trans (X6.out.trans (X7.out.trans (X8.out.trans (X9.out.trans X10.out)))))))))).grown X11.out (by omega)).ext (X12.out.trans X13.out)).grown X14.out (by omega)) rfl (cs:=[.slice (some ⟨S,0,none⟩) 2 2,.slice (some ⟨P,0,none⟩) 2 2,.slice (some ⟨C,0,none⟩) 1 1]) rfl agg_Flat rfl rfl (by simp [one_int,Value.oneCell']) ?_;intro w16 hb16 hg16))
 have hx16:=Ext.grown (Ext.grown ((Ext.grown (HXW.out.trans (X0.out.trans (X1.out.trans (X2.out.trans (X3.out.trans (X4.out.trans (X5.out.trans (X6.out.trans (X7.out.trans (X8.out.trans (X9.out.trans X10.out))))))))))) X11.out (by omega)).trans (X12.out.trans X13.out)) X14.out (by omega)) hg16 (by omega)
 replace HQS:=Jh (((((HQS.out.ext (X3.out.trans (X4.out.trans (X5.out.trans (X6.out.trans (X7.out.trans (X8.out.trans (X9.out.trans X10.out)))))))).grown X11.out (by omega)).ext (X12.out.trans X13.out)).grown X14.out (by omega)).grown hg16 (by omega))
 replace HS:=Jh (((((HS.out.ext (X5.out.trans (X6.out.trans (X7.out.trans (X8.out.trans (X9.out.trans X10.out)))))).grown X11.out (by omega)).ext (X12.out.trans X13.out)).grown X14.out (by omega)).grown hg16 (by omega))
 replace HIS:=Jh (((((HIS.out.ext (X7.out.trans (X8.out.trans (X9.out.trans X10.out)))).grown X11.out (by omega)).ext (X12.out.trans X13.out)).grown X14.out (by omega)).grown hg16 (by omega))
 replace HTA:=Jh (((((HTA.out.ext (X8.out.trans (X9.out.trans X10.out))).grown X11.out (by omega)).ext (X12.out.trans X13.out)).grown X14.out (by omega)).grown hg16 (by omega))
 replace HQ1:=Jh (((((HQ1.out.ext (X9.out.trans X10.out)).grown X11.out (by omega)).ext (X12.out.trans X13.out)).grown X14.out (by omega)).grown hg16 (by omega))
 replace HTB:=Jh (((((HTB.out.ext (X10.out)).grown X11.out (by omega)).ext (X12.out.trans X13.out)).grown X14.out (by omega)).grown hg16 (by omega))
 replace HP:=Jh ((((HP.out.grown X11.out (by omega)).ext (X12.out.trans X13.out)).grown X14.out (by omega)).grown hg16 (by omega))
 replace HQ2:=Jh (((HQ2.out.ext (X13.out)).grown X14.out (by omega)).grown hg16 (by omega))
 replace HC:=Jh ((HC.out.grown X14.out (by omega)).grown hg16 (by omega))
 have hq:∀ B,Blk w16 B ([[.int .i64 2,.int .i64 2,.int .u64 0,.int .i64 0,.int .i64 1,.int .i64 0,.int .i64 0,.slice none 0 0]]:List (List Value)).flatten.toArray 72->Es w16 (.slice (some ⟨B,0,none⟩) 1 1) [q13]:=fun B h =>
  ⟨B,0,⟨_,1,rfl,Nat.le_refl _,by decide,fun _=>rfl⟩,VE.at h.has ⟨_,rfl,Sl.nil _ _⟩,trivial⟩
 have hqs:Es w16 (.slice (some ⟨QS,0,none⟩) 2 2) [q13,one13] :=
  ⟨QS,0,⟨_,2,rfl,Nat.le_refl _,by decide,fun _=>rfl⟩,rows_of_flat (V:=VE) (fun _ _ _ _ _ h hv=>VE.at h hv) _ [[.int .i64 2,.int .i64 2,.int .u64 0,.int .i64 0,.int .i64 1,.int .i64 0,.int .i64 0,.slice none 0 0],[.int .i64 1,.int .i64 2,.int .u64 1,.int .i64 0,.int .i64 0,.int .i64 0,.int .i64 0,.slice none 0 0]] w16 QS 0 HQS.out.has rfl (by intro cs h;simp at h;rcases h with rfl | rfl<;>rfl) (fun i h h'=>by
   match i,h with
   | 0,_=>exact ⟨_,rfl,Sl.nil _ _⟩
   | 1,_=>exact ⟨_,rfl,Sl.nil _ _⟩
   | i+2,h=>exact absurd h (by simp))⟩
 have his:Es w16 (.slice (some ⟨IS,0,none⟩) 1 1) [inc13] :=
  ⟨IS,0,⟨_,1,rfl,Nat.le_refl _,by decide,fun _=>rfl⟩,VE.at HIS.out.has ⟨_,rfl,hqs⟩,trivial⟩
 have hta:Ts w16 (.slice (some ⟨TA,0,none⟩) 1 1) [t13a] :=
  ⟨TA,0,⟨_,1,rfl,Nat.le_refl _,by decide,fun _=>rfl⟩,VT.at HTA.out.has ⟨_,_,rfl,his,Sl.nil _ _⟩,trivial⟩
 have htb:Ts w16 (.slice (some ⟨TB,0,none⟩) 1 1) [t13b] :=
  ⟨TB,0,⟨_,1,rfl,Nat.le_refl _,by decide,fun _=>rfl⟩,VT.at HTB.out.has ⟨_,_,rfl,hq _ HQ1.out,Sl.nil _ _⟩,trivial⟩
 have hp:Procs w16 (.slice (some ⟨P,0,none⟩) 2 2) d13.procs :=
  ⟨P,0,⟨_,2,rfl,Nat.le_refl _,by decide,fun _=>rfl⟩,rows_of_flat (V:=VProc) (fun _ _ _ _ _ h hv=>VProc.at h hv) _ [[.bool true,.slice (some ⟨TA,0,none⟩) 1 1],[.bool false,.slice (some ⟨TB,0,none⟩) 1 1]] w16 P 0 HP.out.has rfl (by intro cs h;simp at h;rcases h with rfl | rfl<;>rfl) (fun i h h'=>by
   match i,h with
   | 0,_=>exact ⟨_,rfl,hta⟩
   | 1,_=>exact ⟨_,rfl,htb⟩
   | i+2,h=>exact absurd h (by simp))⟩
 have hs:Sigs w16 (.slice (some ⟨S,0,none⟩) 2 2) d13.signals :=
  ⟨S,0,⟨_,2,rfl,Nat.le_refl _,by decide,fun _=>rfl⟩,rows_flat (f:=Signal.cells) (fun _=>rfl) d13.signals 0 HS.out.has⟩
 have hc:Chks w16 (.slice (some ⟨C,0,none⟩) 1 1) d13.checks :=
  ⟨C,0,⟨_,1,rfl,Nat.le_refl _,by decide,fun _=>rfl⟩,VCheck.at HC.out.has ⟨_,rfl,hq _ HQ2.out⟩,trivial⟩
 refine post_ret_blk rfl rfl hb16.has agg_Flat rfl rfl ⟨some ⟨S,0,none⟩,some ⟨P,0,none⟩,some ⟨C,0,none⟩,rfl,⟨_,_,_,rfl,hs,hp,hc⟩,hx16⟩
def RowR {α:Type} (R:Nat->Value->List α->World->Prop) (T:TypeId) (N M:Nat) (v:Value) (rows:List (List α)) (w:World):Prop :=
 ∃ us:List Value,w.ownsRow N T 1 v rows.length us/\us.length=rows.length/\(∀ k,v.ownBlock=some k->k<M) /\
  ∀ (i:Nat) u x,us[i]? = some u->rows[i]? = some x->R N u x w/\(∃ a n c,u=.slice a n c)/\∀ k,u.ownBlock=some k->k<M
section
variable {α:Type} {R:Nat->Value->List α->World->Prop} {T:TypeId} {N M:Nat} {v:Value} {rows:List (List α)} {w w':World}
theorem RowR.nil (R:Nat->Value->List α->World->Prop) (T:TypeId) (N M:Nat) (w:World):RowR R T N M (.slice none 0 0) [] w :=
 ⟨[],World.ownsRow_nil _ _ _ _,rfl,fun k hk=>by simp [Value.ownBlock] at hk,fun i u x h=>by simp at h⟩
theorem RowR.more (h:RowR R T N M v rows w) {M':Nat} (hM:M<=M'):RowR R T N M' v rows w:=by
 obtain ⟨us,h1,h2,h3,h4⟩:=h
 exact ⟨us,h1,h2,fun k hk=>Nat.lt_of_lt_of_le (h3 k hk) hM,fun i u x hu hx=>⟨(h4 i u x hu hx).1,(h4 i u x hu hx).2.1,fun k hk=>Nat.lt_of_lt_of_le ((h4 i u x hu hx).2.2 k hk) hM⟩⟩
theorem RowR.head (h:RowR R T N M v rows w):∃ a c,v=.slice a rows.length c:=by
 obtain ⟨us,h1,-⟩:=h
 rcases h1.2 with ⟨rfl,h0⟩ | ⟨g,cap,cur,rfl,-⟩
 ·exact ⟨_,_,by rw [h0]⟩
 ·exact ⟨_,_,rfl⟩
theorem ownsRow_keep {e:TypeId} {n:Nat} {xs:List Value} (h:w.ownsRow N e 1 v n xs) (hk:∀ k,v.ownBlock=some k->∀ o,w.heap[k]? = some o->w'.heap[k]? = some o):w'.ownsRow N e 1 v n xs:=by
 obtain ⟨h1,h2⟩:=h
 refine ⟨h1,h2.imp id ?_⟩
 rintro ⟨g,cap,cur,rfl,hb,hg,rest⟩
 exact ⟨g,cap,cur,rfl,hb,hk g rfl _ hg,rest⟩
theorem ownsRow_at {e:TypeId} {n:Nat} {xs:List Value} (h:w.ownsRow N e 1 v n xs) {k:Nat} (hk:v.ownBlock=some k):N<=k/\∃ cur,w.heap[k]? = some (.cells cur e (0,0)):=by
 rcases h.2 with ⟨rfl,-⟩ | ⟨g,cap,cur,rfl,hb,hg,-⟩
 ·simp [Value.ownBlock] at hk
 ·simp [Value.ownBlock] at hk
  subst hk
  exact ⟨hb,cur,hg⟩
end
structure El {α:Type} (R:Nat->Value->List α->World->Prop) (Te:TypeId):Prop where
 has:∀ {N:Nat} {u:Value} {x:List α} {w:World},R N u x w->∀ k,u.ownBlock=some k->N<=k/\∃ cur,w.heap[k]? = some (.cells cur Te (0,0))
 keep:∀ {N:Nat} {u:Value} {x:List α} {w w':World},R N u x w->(∀ k,u.ownBlock=some k->∀ o,w.heap[k]? = some o->w'.heap[k]? = some o)->R N u x w'
theorem wordEl:El WordRow 39:=⟨fun h k hk=>h.at hk,fun h hk=>h.keep hk⟩
theorem boolEl:El BoolRow 4:=⟨fun h k hk=>h.at hk,fun h hk=>h.keep hk⟩
section
variable {α:Type} {R:Nat->Value->List α->World->Prop} {T Te:TypeId} {N M:Nat} {v:Value} {rows:List (List α)} {w w':World}
theorem RowR.keep (hE:El R Te) (h:RowR R T N M v rows w) (hk:∀ k cur E,N<=k->k<M->w.heap[k]? = some (.cells cur E (0,0))->E=T\/E=Te->w'.heap[k]? = w.heap[k]?):RowR R T N M v rows w':=by
 obtain ⟨us,h1,h2,h3,h4⟩:=h
 refine ⟨us,ownsRow_keep h1 fun k hkk o ho=>?_,h2,h3,fun i u x hu hx=>?_⟩
 ·obtain ⟨hN,cur,hcur⟩:=ownsRow_at h1 hkk
  rw [hk k cur T hN (h3 k hkk) hcur (.inl rfl)];exact ho
 ·obtain ⟨g1,g2,g3⟩:=h4 i u x hu hx
  refine ⟨hE.keep g1 fun k hkk o ho=>?_,g2,g3⟩
  obtain ⟨hN,cur,hc⟩:=hE.has g1 k hkk
  rw [hk k cur Te hN (g3 k hkk) hc (.inr rfl)];exact ho
theorem RowR.top (hE:El R Te) (h:RowR R T N M v rows w):RowR R T N w.heap.size v rows w:=by
 obtain ⟨us,h1,h2,h3,h4⟩:=h
 refine ⟨us,h1,h2,fun k hk=>?_,fun i u x hu hx=>⟨(h4 i u x hu hx).1,(h4 i u x hu hx).2.1,fun k hk=>?_⟩⟩
 ·obtain ⟨-,cur,hc⟩:=ownsRow_at h1 hk
  exact (Array.getElem?_eq_some_iff.1 hc).1
 ·obtain ⟨-,cur,hc⟩:=hE.has (h4 i u x hu hx).1 k hk
  exact (Array.getElem?_eq_some_iff.1 hc).1
theorem RowR.ext (hE:El R Te) (h:RowR R T N M v rows w) (hx:Ext w w'):RowR R T N M v rows w' :=
 h.keep hE fun k cur E _ _ hc _=>hx.block k (Array.getElem?_eq_some_iff.1 hc).1
theorem RowR.low (hE:El R Te) (h:RowR R T N M v rows w) {Rb:Option Nat} (hg:w.grownBy w' Rb) (hn:∀ b,Rb=some b->b<N):RowR R T N M v rows w' :=
 h.keep hE fun k cur E hN _ hc _=>hg.block k (Array.getElem?_eq_some_iff.1 hc).1 fun e=>by have:=hn k e.symm;omega
theorem RowR.grown (hE:El R Te) (h:RowR R T N M v rows w) {Rb:Option Nat} (hg:w.grownBy w' Rb) (hn:∀ b,Rb=some b->M<=b\/∃ cs Tb,w.heap[b]? = some (.cells cs Tb (0,0))/\Tb≠T/\Tb≠Te):RowR R T N M v rows w' :=
 h.keep hE fun k cur E _ hk hc ht=>hg.block k (Array.getElem?_eq_some_iff.1 hc).1 fun e=>by
  rcases hn k e.symm with h1 | ⟨cs,Tb,h1,h2,h3⟩
  ·omega
  ·rw [hc] at h1
   injection h1 with h1
   injection h1 with _ h1
   subst h1
   rcases ht with rfl | rfl
   ·exact h2 rfl
   ·exact h3 rfl
end
abbrev RowU (N M:Nat) (v:Value) (rows:List (List Nat)) (w:World):Prop:=RowR WordRow 27 N M v rows w
abbrev RowL (N M:Nat) (v:Value) (rows:List (List Bool)) (w:World):Prop:=RowR BoolRow 64 N M v rows w
theorem appWords:AppT Tryz.prog 55 27 1 24:=⟨Tryz.underlying55,by kernel_rfl,by decide,by decide⟩
theorem appBoolss:AppT Tryz.prog 57 64 1 24:=⟨Tryz.underlying57,by kernel_rfl,by decide,by decide⟩
theorem step_appR {α:Type} {R:Nat->Value->List α->World->Prop} {T Te t:TypeId} (hE:El R Te) (hTe:Te≠T) {ops:Array Oper} {o:Oper} {a:Act} {w:World} {K:Act->World->Prop} {Q:Exit->Act->World->Prop} {E:Prop} (hw:Region.wanted o (yielded ops a.tmps)=true) (s x:Operand)
  (ho:o.op=.call { callee:=.builtin .append,args:=#[s,x],argTypes:=#[t,t] }) (hT:AppT Tryz.prog t T 1 24) {N M:Nat} {v:Value} {rows:List (List α)} (hs:a.eval s=v) (hown:RowR R T N M v rows w)
  {B c:Nat} (hx:a.eval x=.slice (some ⟨B,0,none⟩) 1 c) {u:Value} {y:List α} (hcs:Has w B 0 [u]) (hu:R N u y w) (hus:∃ a n c,u=.slice a n c) (hn:rows.length+1<=16777216) (hbase:N<=w.heap.size)
  (h:∀ g cap w',RowR R T N w'.heap.size (.slice (some ⟨g,0,none⟩) (rows.length+1) cap) (rows++[y]) w'->w.grownBy w' v.ownBlock->K (a.put o.dst (.slice (some ⟨g,0,none⟩) (rows.length+1) cap)) w') :
  if Region.wanted o (yielded ops a.tmps)=true then Oper.wp Tryz.prog o a w K Q else E:=by
 rw [if_pos hw]
 obtain ⟨us,h1,h2,h3,h4⟩:=hown
 obtain ⟨ua,un,uc,rfl⟩:=hus
 obtain ⟨v',w',hr,h5,h6,g,cap,rfl,hg⟩:=run_app (P:=Tryz.prog) (ty:=o.type) (a:=⟨B,0,none⟩) (m:=1) (c:=c) (news:=[.slice ua un uc]) hT h1 (fun _=>Nat.lt_of_lt_of_le Nat.zero_lt_one (Nat.le_refl 1)) (by simp) (news_has hcs) rfl hn hbase
 have hkeep:∀ u x,R N u x w->R N u x w':=fun u x hr=>by
  refine hE.keep hr fun k hk o ho=>?_
  have hlt:=(Array.getElem?_eq_some_iff.1 ho).1
  rw [h6.block k hlt fun e=>?_]
  ·exact ho
  ·obtain ⟨-,cur,hc⟩:=hE.has hr k hk
   obtain ⟨-,cur2,hc2⟩:=ownsRow_at h1 e.symm
   rw [hc] at hc2
   injection hc2 with hc2
   injection hc2 with _ hc2
   exact hTe hc2
 unfold Oper.wp execOp
 simp only [ho,resolve,invoke,builtin,Sem.run_bind,Sem.run_pure,Result.andThen_ok,List.map_toArray,List.map_cons,List.map_nil,hs,hx]
 rw [hr]
 refine h g cap w' (RowR.top (M:=w'.heap.size) hE ⟨us++[.slice ua un uc],by rw [List.length_append];exact h5,by simp [h2],fun k hk=>?_,fun i u' x' hu' hx'=>?_⟩) h6
 ·obtain ⟨-,cur,hc⟩:=ownsRow_at h5 hk
  exact (Array.getElem?_eq_some_iff.1 hc).1
 ·have hlen:∀ u x,R N u x w'->∀ k,u.ownBlock=some k->k<w'.heap.size:=fun u x hr k hk=>by
   obtain ⟨-,cur,hc⟩:=hE.has hr k hk
   exact (Array.getElem?_eq_some_iff.1 hc).1
  by_cases hi:i<us.length
  ·rw [List.getElem?_append_left hi] at hu'
   rw [List.getElem?_append_left (by rw [<-h2];exact hi)] at hx'
   obtain ⟨g1,g2,-⟩:=h4 i u' x' hu' hx'
   have:=hkeep _ _ g1
   exact ⟨this,g2,hlen _ _ this⟩
  ·rw [List.getElem?_append_right (by omega)] at hu'
   rw [List.getElem?_append_right (by omega)] at hx'
   rw [h2] at hu'
   cases hj:i-rows.length with
   | zero =>
    rw [hj] at hu' hx'
    simp at hu' hx'
    subst hu' hx'
    have:=hkeep _ _ hu
    exact ⟨this,⟨_,_,_,rfl⟩,hlen _ _ this⟩
   | succ j=>rw [hj] at hu';simp at hu'
abbrev UsL (w:World) (v:Value) (ll:List (List Nat)):Prop:=Sl 1 (fun (x:List Nat) b o=>∃ u,Has w b o [u]/\Us w u x) v ll
abbrev BsL (w:World) (v:Value) (ll:List (List Bool)):Prop:=Sl 1 (fun (x:List Bool) b o=>∃ u,Has w b o [u]/\Bools w u x) v ll
theorem RowR.sl {α:Type} {R:Nat->Value->List α->World->Prop} {T:TypeId} {N M:Nat} {v:Value} {rows:List (List α)} {w:World} (h:RowR R T N M v rows w) {C:World->Value->List α->Prop} (hc:∀ u x,R N u x w->C w u x) :
  Sl 1 (fun (x:List α) b o=>∃ u,Has w b o [u]/\C w u x) v rows:=by
 obtain ⟨us,h1,h2,-,h4⟩:=h
 rcases h1.2 with ⟨rfl,h0⟩ | ⟨g,cap,cur,rfl,hb,hg,hnc,hcm,hcs,htake⟩
 ·obtain rfl:rows=[]:=List.eq_nil_of_length_eq_zero h0
  exact Sl.nil _ _
 ·refine ⟨g,0,⟨_,cap,rfl,hnc,hcm,fun _=>rfl⟩,?_⟩
  have hh:Has w g 0 us:=flat_own (N:=N) (cap:=cap) (size:=1) hg htake
  have key:∀ (rows:List (List α)) (us:List Value) (o:Nat),us.length=rows.length->Has w g o us->(∀ (i:Nat) u x,us[i]? = some u->rows[i]? = some x->C w u x)->Rows 1 (fun (x:List α) b o=>∃ u,Has w b o [u]/\C w u x) rows g o:=by
   intro rows
   induction rows with
   | nil=>intros;trivial
   | cons x rows ih =>
    intro us o hl hh hr
    cases us with
    | nil=>simp at hl
    | cons u us =>
     refine ⟨⟨u,fun j v hj=>?_,hr 0 u x rfl rfl⟩,ih us (o+1) (by simpa using hl) (fun j v hj=>?_) fun i u x hu hx=>hr (i+1) u x (by simpa using hu) (by simpa using hx)⟩
     ·cases j with
      | zero=>exact hh 0 v (by simpa using hj)
      | succ j=>simp at hj
     ·have:=hh (j+1) v (by simpa using hj)
      rw [show o+1+j=o+(j+1) by omega];exact this
  exact key rows us 0 h2 hh fun i u x hu hx=>hc u x (h4 i u x hu hx).1
end Go.Proofs.YtoaamjgfhppppaaGreat
