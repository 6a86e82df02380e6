/- Laws and walks that a claim of this seat leans on: Bitv6, EvL, FoldL, BitsL, Us, BsN, Bitv5, UpB. -/
import Derived.Test.YtpngepnfinbaoaaGreatC15
import Derived.Test.YtpngepnfinbaoaaGreatC14
import Derived.Test.YtpngepnfinbaoaaGreatC01
import Derived.Test.YtpngepnfinbaoaaGreatC03
import Derived.Test.YtpngepnfinbaoaaGreatC06
import Derived.Test.YtpngepnfinbaoaaGreatCStmtS
import Derived.Test.YtpngepnfinbaoaaGreatC00
set_option maxRecDepth 100000
set_option maxHeartbeats 8000000
set_option linter.all false
namespace Go.Proofs.YtpngepnfinbaoaaGreat
open Go.RowKit
def catP (l:List Bt):List (Int × Nat):=l.map fun b=>(b.w,b.v)
def catW (l:List Bt):Int:=(l.map (·.w)).sum
theorem catM_snoc (l:List (Int × Nat)) (p:Int × Nat):∀ acc,catM (l++[p]) acc=catM l acc*2^p.1.toNat+p.2:=by
 induction l with
 | nil=>intro acc;rfl
 | cons q l ih=>intro acc;exact ih _
theorem cat_lt (l:List Bt) (h:∀ x∈l,x.ok):0<=catW l/\catM (catP l) 0<2^(catW l).toNat:=by
 have hs:0<=catW l/\(catW l).toNat=((catP l).map fun p=>p.1.toNat).sum:=by
  unfold catW catP
  induction l with
  | nil=>simp
  | cons x l ih =>
   have:=(h x (by simp)).1
   obtain ⟨h1,h2⟩:=ih fun y hy=>h y (by simp [hy])
   simp only [List.map_cons,List.sum_cons]
   simp only [List.map_map] at h2 ⊢
   omega
 refine ⟨hs.1,?_⟩
 have:=catM_lt (catP l) 0 0 (by decide) (by
  intro p hp
  obtain ⟨x,hx,rfl⟩:=List.mem_map.1 hp
  exact (h x hx).2.2)
 rw [hs.2];simpa using this
theorem n_or {a b:Nat} (ha:a<2^64) (hb:b<2^64):bits .or .u64 (a:Int) (b:Int)=((a ||| b:Nat):Int) :=
 (bits_nat .u64 64 (by decide) (fun n h0 h1=>by rw [IntKind.wrap_u64];omega) a b ha hb).2
theorem cat_step {acc j bw bv:Nat} (h1:acc<2^j) (h2:bv<2^bw) (h3:j+bw<=64) :
  IntKind.u64.wrap ((acc:Int)*2^bw)=((acc*2^bw:Nat):Int)/\bits .or .u64 ((acc*2^bw:Nat):Int) (bv:Int)=((acc*2^bw+bv:Nat):Int):=by
 have h4:acc*2^bw+bv<2^(j+bw):=by
  rw [Nat.pow_add]
  have:(acc+1)*2^bw<=2^j*2^bw:=Nat.mul_le_mul_right _ h1
  rw [Nat.add_mul] at this
  omega
 have h5:2^(j+bw)<=18446744073709551616:=Nat.pow_le_pow_right (n:=2) (by decide) h3
 constructor
 ·rw [IntKind.wrap_u64,show ((acc:Int)*2^bw)=((acc*2^bw:Nat):Int) by norm_cast]
  omega
 ·rw [n_or (by omega) (by omega)]
  congr 1
  rw [Nat.mul_comm,<-Nat.two_pow_add_eq_or_of_lt h2]
theorem cat_take (l:List Bt) (h:∀ x∈l,x.ok) (k:Nat) (hk:k<l.length):catW (l.take (k+1))=catW (l.take k)+l[k].w/\catM (catP (l.take (k+1))) 0=catM (catP (l.take k)) 0*2^l[k].w.toNat+l[k].v/\catW (l.take (k+1))<=catW l:=by
 have e:l.take (k+1)=l.take k++[l[k]]:=by rw [List.take_succ,List.getElem?_eq_getElem hk];rfl
 refine ⟨by unfold catW;rw [e,List.map_append,List.sum_append,List.map_cons,List.map_nil,List.sum_cons,List.sum_nil,Int.add_zero],?_,?_⟩
 ·rw [e,catP,List.map_append,List.map_cons,List.map_nil,catM_snoc];rfl
 ·have h1:catW l=catW (l.take (k+1))+catW (l.drop (k+1)):=by
   unfold catW
   rw [<-List.sum_append,<-List.map_append,List.take_append_drop]
  have h2:=(cat_lt (l.drop (k+1)) (fun x hx=>h x (List.mem_of_mem_drop hx))).1
  omega
theorem Cat_calls (l:List Bt) (hok:∀ x∈l,x.ok) (hne:l≠[]) (hw:catW l<=64) (s:Value) (w:World) (h:Bts w s l) :
  Calls Tryz.prog 64 #[s] w (BtPost w ⟨catW l,catM (catP l) 0⟩):=by
 have HX:=ext_alloc w (.cells #[.int .i64 0,.int .u64 0] 69)
 have hR:=Blk.new w #[.int .i64 0,.int .u64 0] 69
 have HAL:=Jh (fun (W:World) (h:Bts W s l)=>all_calls l hok s W h)
 have HOK:=Jh hok
 have HW:=Jh hw
 have HB:=Jh h
 have hl0:0<l.length:=List.length_pos_iff.2 hne
 obtain ⟨a,b,o,cap,hs,hc1,hc2,ha,hr⟩:=h.open
 subst hs
 clear hok hw hne h
 have b1:((l.length:Int)==0)=false:=by rw [beq_eq_false_iff_ne];omega
 go_enter Tryz.func64,Tryz.ntmps64
 go_upto_region 1 with fail
 generalize w.alloc _=w0 at *
 obtain rfl:=ha hl0
 clear ha
 go_wp2_with (first | (go_at_call 102;refine (HAL.out _ (HB.out.ext HX)).mono ?_;rintro r w1 ⟨rfl,hx1⟩))
 have hR1:=hR.ext hx1
 go_loopw [5,17] (fun _ i wr=>∃ k:Nat,k<=l.length/\i=.int .i64 k/\Ext w wr/\Blk wr w.heap.size (Bt.cells ⟨catW (l.take k),catM (catP (l.take k)) 0⟩).toArray 69) (fun _ i _=>l.length-(intOf i).toNat)
 case atStart=>exact ⟨0,Nat.zero_le _,rfl,HX.trans hx1,hR1⟩
 case round =>
  obtain ⟨k,hk,rfl,hB,hRk⟩:=hrel
  by_cases hlt:k<l.length
  ·have he:=(Bts.get hr hlt).ext hB
   obtain ⟨t1,t2,t3⟩:=cat_take l HOK.out k hlt
   have hxo:=HOK.out _ (List.getElem_mem hlt)
   obtain ⟨z1,z2⟩:=cat_lt (l.take k) (fun x hx=>HOK.out x (List.mem_of_mem_take hx))
   have hw64:=HW.out
   generalize l[k]=x at *
   rw [t1] at t3
   obtain ⟨e1,e2⟩:=cat_step z2 hxo.2.2 (by have:=hxo.1;omega)
   have hxl:=Bt.lt64 hxo
   have hx1:=hxo.1
   have hx2:=hxo.2.1
   have T1:=Jh t1
   have T2:=Jh t2
   have E1:=Jh e1
   have E2:=Jh e2
   generalize catW (l.take k)=s0 at *
   generalize catM (catP (l.take k)) 0=a0 at *
   generalize a0*2^x.w.toNat=m0 at *
   clear t1 t2 z2 e1 e2 hxo
   obtain ⟨xw,xv⟩:=x
   simp only at *
   have hex:=ext_alloc wr (.cells (Bt.cells ⟨xw,xv⟩).toArray 69)
   have hbx:=Blk.new wr (Bt.cells ⟨xw,xv⟩).toArray 69
   have hRx:=hRk.ext hex
   have hRlt:=hRk.lt
   go_upto_region 6 with (first | ((with_reducible show Jl 69);refine Jm 69 (he) agg_Bits rfl ?_) | ((with_reducible show Js 69);refine wpList_store_new rfl 69 _ _ rfl rfl (by first | rfl | simp) rfl agg_Bits (rfl) rfl (rfl) ?_))
   generalize wr.alloc _=w2 at *
   have HBX:=Jh hbx
   have HEX:=Jh hex
   have g0:=hRx.has 0 _ rfl
   have r0:=hRx.frozen 0
   have g1:=hbx.has 0 _ rfl
   clear hbx hex
   go_upto_region 7 with fail
   have hR3:=hRx.set 0 (.int .i64 (s0+xw))
   have hg3:=gb_set w2 w.heap.size 0 (.int .i64 (s0+xw))
   have hB3:=HBX.out.grown hg3 (by omega)
   have HX3:=Jh ((hB.trans HEX.out).grown hg3 (Nat.le_refl _))
   clear hg3 g0 r0 g1 hRx
   generalize w2.setCell _ _=w3 at *
   have hR4:Blk w3 w.heap.size (Bt.cells ⟨s0+xw,a0⟩).toArray 69:=hR3
   clear hR3
   have g0:=hR4.has 0 _ rfl
   have hle:s0+xw<=64:=by omega
   have hle2:decide (64<s0+xw)=false:=by simpa using hle
   go_wp2_with fail
   refine wp_region_held_drew (S:=fun W=>Blk W wr.heap.size (Bt.cells ⟨xw,xv⟩).toArray 69) (by kernel_rfl) hB3.drew (fun hH=>?_)
   try simp only [J]
   (refine Jt 0 (_) rfl (yif_load1 rfl fun _ _=>rfl) hH ?_;try simp only [J])
   (refine Jt 2 (_) rfl (yif_load1 rfl fun _ _=>rfl) hH ?_;try simp only [J])
   (refine Jt 3 (.int .i64 xw) rfl (yif_load1 rfl (by intro W hW;have y:=hW.has 0 _ rfl;clear hW;go_simp)) hH ?_;try simp only [J])
   (refine Jt 5 (_) rfl (yif_load1 rfl fun _ _=>rfl) hH ?_;try simp only [J])
   (refine Jt 6 (.int .u64 (xv:Int)) rfl (yif_load1 rfl (by intro W hW;have y:=hW.has 1 _ rfl;clear hW;go_simp)) hH ?_;try simp only [J])
   (refine Jr 1 rfl fun K hK=>?_)
   have z1:=hR4.drew.has 1 _ rfl
   have y1:=hR4.drew.frozen 1
   go_simp
   refine hK.out _ _ hH (fun hH=>?_)
   clear hK K
   try simp only [J]
   (refine Jt 4 (.int .u64 (m0:Int)) rfl (yif_load1 rfl (by intro W hW;clear hW;go_simp;exact E1.out)) hH ?_;try simp only [J])
   (refine Jt 7 (.int .u64 ((m0+xv:Nat):Int)) rfl (yif_load1 rfl (by intro W hW;clear hW;go_simp;exact E2.out)) hH ?_;try simp only [J])
   (refine Jt 8 (_) rfl (yif_load1 rfl fun _ _=>rfl) hH ?_;try simp only [J])
   (refine Jr 9 rfl fun K hK=>?_)
   go_simp
   have hR5:=(hR4.set 1 (.int .u64 ((m0:Int)+(xv:Int)))).drew
   have hg5:=gb_drew (gb_set w3 w.heap.size 1 (.int .u64 ((m0:Int)+(xv:Int))))
   have hB5:=hB3.grown hg5 (by omega)
   have hX5:=HX3.out.grown hg5 (Nat.le_refl _)
   refine hK.out _ _ hB5 (fun hH=>?_)
   clear hK K
   refine Jz ?_
   generalize (w3.setCell _ _).drew=w5 at *
   clear z1 y1
   go_wp2_with fail
   go_roundw
   case rel=>exact ⟨k+1,by omega,by go_num,hX5,by rw [T1.out,T2.out];exact hR5⟩
   case measure=>simp [intOf];omega
  ·obtain rfl:k=l.length:=by omega
   rw [List.take_length] at hRk
   have hR2:=hRk.has
   go_wp2_with (first | ((with_reducible show Jl 69);refine Jm 69 (hR2) agg_Bits rfl ?_) | ((with_reducible show Js 69);refine wpList_store_blk rfl 69 _ _ rfl (hRk) rfl (cs:=Bt.cells ⟨catW l,catM (catP l) 0⟩) (rfl) agg_Bits (rfl) rfl (rfl) ?_;intro w4 hb4 hg4))
   refine post_ret_blk2' rfl rfl rfl hb4.has agg_Bits rfl rfl ⟨rfl,hB.grown hg4 (by omega)⟩
def Vals (ls:List Signal) (vs:List Nat):Prop:=∀ sig:Int,0<=sig->sig<ls.length->vs.getD sig.toNat 0<2^(sigW ls sig).toNat
theorem holds_lt {w v:Int} (h0:0<=v) (h1:v<18446744073709551616) (hw:0<=w):holds w v=true↔v.toNat<2^w.toNat:=by
 obtain ⟨x,rfl⟩:=Int.eq_ofNat_of_zero_le h0
 obtain ⟨k,rfl⟩:=Int.eq_ofNat_of_zero_le hw
 have hx:x<2^64:=by omega
 unfold holds
 rw [decide_eq_true_eq]
 simp only [Int.toNat_natCast]
 by_cases hz:x=0
 ·subst hz
  simp [Lib.bitLen,Lib.bitLenAux_zero,Nat.two_pow_pos]
 ·obtain ⟨g1,g2,g3⟩:=Lib.bitLenAux_bounds 64 x hx hz
  change 1<=Lib.bitLen x at g1
  change 2^(Lib.bitLen x-1)<=x at g2
  change x<2^Lib.bitLen x at g3
  constructor
  ·intro h
   exact Nat.lt_of_lt_of_le g3 (Nat.pow_le_pow_right (by decide) (by omega))
  ·intro h
   by_cases hc:Lib.bitLen x<=k
   ·omega
   ·have:=Nat.pow_le_pow_right (n:=2) (by decide) (show k<=Lib.bitLen x-1 by omega)
    omega
def evB (vs:List Nat) (e:E):Bt:=⟨e.w,evM vs e⟩
theorem zip_cat (vs:List Nat) (l:List E):(l.map (·.w)).zip (l.map (evM vs))=catP (l.map (evB vs)):=by
 rw [List.zip_map']
 unfold catP
 rw [List.map_map];rfl
theorem catW_map (vs:List Nat) (l:List E):catW (l.map (evB vs))=(l.map (·.w)).sum:=by
 unfold catW;rw [List.map_map];rfl
theorem ev_lt {ls:List Signal} (hls:∀ x∈ls,x.w<=64) {vs:List Nat} (e:E):WS ls e->e.wf->evM vs e<2^e.w.toNat:=by
 induction e using E.ind with
 | h e ih =>
  intro h hwf
  obtain ⟨h0,hp⟩:=(WS_iff ls e).1 h
  have hwp:=((E.wf_iff e).1 hwf).2.2.2.2.2.2.2
  have hv:=((E.wf_iff e).1 hwf).2.2.1
  have ih2:=fun x hx=>ih x hx (hp x hx) (hwp x hx)
  have hop:=fun x hx=>ws_own hls x (hp x hx)
  rw [evM_eq]
  clear ih hp h hwp hwf
  obtain ⟨op,w,v,sig,hi,lo,n,l⟩:=e
  simp only at h0 ih2 hop hv ⊢
  unfold evNode
  rcases h0 with ⟨rfl,-,h1,h2,h3,-⟩ | ⟨rfl,-,h1,h2,-⟩ | ⟨rfl,⟨k,hk⟩,-,-,rfl,-⟩ | ⟨rfl,⟨k,hk,h1⟩,-⟩ | ⟨rfl,⟨j,k,hk,h1⟩,-⟩ | ⟨rfl,hk,-⟩ | ⟨rfl,h1,h2,h3,-⟩ | ⟨rfl,⟨k,hk,h1⟩,h2,h3,-⟩
  ·simp only [if_pos]
   exact (holds_lt hv.1 (by have:=hv.2;omega) (by omega)).1 h3
  ·simp
   rw [h2];exact Nat.mod_lt _ (Nat.two_pow_pos _)
  ·simp;omega
  ·obtain ⟨x,rfl,rfl⟩:=map1 hk
   have hx:=ih2 x (by simp)
   have ox:=hop x (by simp)
   have hlt:=unM_lt (op:=n) hx (by omega)
   simp
   rcases h1 with ⟨a1,a2,a3⟩ | ⟨a1,a2,a3⟩ | ⟨a1,a2,a3⟩
   ·rw [<-a3];exact hlt
   ·have:n=3\/n=4\/n=5:=by omega
    subst a3
    rcases this with rfl | rfl | rfl
    ·simpa [unM] using b2n_lt _
    ·have:=b2n_lt (decide (evM vs x≠0));simpa [unM] using this
    ·simp [unM];omega
   ·subst a1;subst a2
    simpa [unM] using b2n_lt _
  ·obtain ⟨x,y,rfl,rfl,rfl⟩:=map2 hk
   have hx:=ih2 x (by simp)
   have hy:=ih2 y (by simp)
   have ox:=hop x (by simp)
   simp
   rcases h1 with ⟨a1,a2,a3,a4⟩ | ⟨a1,a2,a3⟩ | ⟨a1,a2,a3,a4⟩ | ⟨a1,a2,a3,a4,a5⟩
   ·rw [<-a3];exact binM_lt hx (fun _ _=>by rw [a3,<-a4];exact hy) (by omega)
   ·rw [<-a3];exact binM_lt hx (fun h1 h2=>by omega) (by omega)
   ·have hq:n=19\/n=20\/n=21\/n=22\/n=23\/n=24:=by omega
    subst a3
    rcases hq with rfl | rfl | rfl | rfl | rfl | rfl<;>simp [binM]<;>exact b2n_lt _
   ·subst a3
    have:=binM_lt (op:=n) hx (fun _ _=>by rw [a4,<-a5];exact hy) (by omega)
    rw [a4] at this ⊢
    exact this
  ·obtain ⟨c,x,y,rfl,hc,hx,hy⟩:=map3 hk
   have ix:=ih2 x (by simp)
   have iy:=ih2 y (by simp)
   simp
   split
   ·rw [<-hx];exact ix
   ·rw [<-hy];exact iy
  ·simp
   rw [zip_cat,h2,<-catW_map vs]
   exact (cat_lt _ (by
    intro b hb
    obtain ⟨x,hx,rfl⟩:=List.mem_map.1 hb
    exact ⟨(hop x hx).2.1,(hop x hx).2.2,ih2 x hx⟩)).2
  ·obtain ⟨x,rfl,rfl⟩:=map1 hk
   have hx:=ih2 x (by simp)
   have ox:=hop x (by simp)
   simp
   exact extN_lt hx (by omega) (by omega)
theorem evB_ok {ls:List Signal} (hls:∀ x∈ls,x.w<=64) {vs:List Nat} {e:E} (h:WS ls e) (hwf:e.wf):(evB vs e).ok:=⟨(ws_own hls e h).2.1,(ws_own hls e h).2.2,ev_lt hls e h hwf⟩
def E.with (e:E) (l:List E):E:=⟨e.op,e.w,e.v,e.sig,e.hi,e.lo,e.n,l⟩
def isNum (e:E):Bool:=decide (e.op=1)
def hdE (l:List E):E:=l.headD zE
def foldN (ls:List Signal) (e:E) (l:List E):E :=
 if l.length=0 then e
 else if e.op=3/\isNum (hdE l)=true/\(hdE l).v<sigW ls e.sig then ⟨2,1,0,e.sig,(hdE l).v,(hdE l).v,0,[]⟩
 else if e.op=6/\isNum (hdE l)=true then l.getD (2-(hdE l).v).toNat zE
 else if l.all isNum=false then e.with l
 else ⟨1,e.w,evM [] (e.with l),0,0,0,0,[]⟩
def foldM (ls:List Signal):E->E
 | ⟨op,w,v,sig,hi,lo,n,l⟩=>foldN ls ⟨op,w,v,sig,hi,lo,n,l⟩ (all l)
where all:List E->List E
 | []=>[]
 | e::l=>foldM ls e::all l
def bitsM (ls:List Signal) (e:E):List Int:=allNums (offsM ls ls.length) (partsE ls e)
def lo0 (e:E):Int:=if e.op=2 then e.lo else 0
def hi0 (ls:List Signal) (e:E):Int:=if e.op=2 then e.hi else if e.op=3 then sigW ls e.sig-1 else -1
def ownB (ls:List Signal) (e:E) (k:Nat):List Int:=(List.range k).map fun (j:Nat)=>lo0 e+sumW ls e.sig.toNat+(j:Int)
def cntB (ls:List Signal) (e:E):Nat:=(hi0 ls e-lo0 e+1).toNat
theorem ws_sig {ls:List Signal} (hls:∀ x∈ls,1<=x.w/\x.w<=64) {e:E} (h:WS ls e):0<=e.sig/\e.sig<=ls.length/\(e.op=3->e.sig<ls.length)/\0<=lo0 e/\lo0 e<=64/\-1<=hi0 ls e/\hi0 ls e<=64/\(e.op=2\/e.op=3->e.sig<ls.length):=by
 have hls':∀ x∈ls,x.w<=64:=fun x hx=>(hls x hx).2
 obtain ⟨h0,-⟩:=(WS_iff ls e).1 h
 unfold wsN at h0
 unfold lo0 hi0
 rcases h0 with ⟨ho,-,-,-,-,hs,-⟩ | ⟨ho,-,hs,-⟩ | ⟨ho,-,h1,h2,-⟩ | ⟨ho,-,-,hs,-⟩ | ⟨ho,-,-,hs,-⟩ | ⟨ho,-,-,hs,-⟩ | ⟨ho,-,-,-,-,hs,-⟩ | ⟨ho,-,-,-,-,hs,-⟩
 case inr.inl=>have:=slice_le ls hls' hs;rw [if_pos ho,if_pos ho];omega
 case inr.inr.inl =>
  obtain ⟨k,hk⟩:=Int.eq_ofNat_of_zero_le h1
  have hlt:k<ls.length:=by omega
  have hsw:sigW ls e.sig=ls[k].w:=by rw [hk];simp [sigW,List.getElem?_eq_getElem hlt]
  have:=hls _ (List.getElem_mem hlt)
  rw [if_neg (by omega),if_neg (by omega),if_pos ho,hsw];omega
 all_goals rw [if_neg (by omega),if_neg (by omega),if_neg (by omega)];omega
theorem ownB_spans {ls:List Signal} (hls:∀ x∈ls,1<=x.w/\x.w<=64) {e:E} (h:WS ls e):ownB ls e (cntB ls e)=allNums (offsM ls ls.length) (spans0 ls e.op e.sig e.hi e.lo):=by
 obtain ⟨h0,h1,h2,-,-,-,-,h3⟩:=ws_sig hls h
 unfold ownB cntB lo0 hi0 spans0
 by_cases o2:e.op=2
 ·rw [if_pos o2,if_pos o2,if_pos o2]
  unfold allNums numsOf
  simp only [List.map_cons,List.map_nil,List.flatten_cons,List.flatten_nil,List.append_nil]
  rw [offsM_getD ls _ _ (by omega)]
  exact List.map_congr_left fun j _=>by omega
 ·rw [if_neg o2,if_neg o2,if_neg o2]
  by_cases o3:e.op=3
  ·rw [if_pos o3,if_pos o3]
   unfold allNums numsOf
   simp only [List.map_cons,List.map_nil,List.flatten_cons,List.flatten_nil,List.append_nil]
   rw [offsM_getD ls _ _ (by omega)]
   exact List.map_congr_left fun j _=>by omega
  ·rw [if_neg o3,if_neg o3];rfl
def RelD (fr:Nat->(Nat->Value)->List Deferred->Act) (I:Nat->List Deferred->World->Prop):Act->World->Prop:=fun a w=>∃ k f ds,a=fr k f ds/\I k ds w
theorem RelD.intro {fr:Nat->(Nat->Value)->List Deferred->Act} {I:Nat->List Deferred->World->Prop} {a:Act} {w:World} (k:Nat) (h:a=fr k (fun i=>a.tmps.getD i undef) a.defers) (hI:I k a.defers w):RelD fr I a w:=⟨k,_,_,h,hI⟩
theorem allNums_flat (offs:List Int) (f:E->List Span) (l:List E):allNums offs ((l.map f).flatten)=(l.map fun x=>allNums offs (f x)).flatten:=by
 induction l with
 | nil=>rfl
 | cons x l ih=>rw [List.map_cons,List.flatten_cons,allNums_append,ih];rfl
theorem bitsM_eq {ls:List Signal} (hls:∀ x∈ls,1<=x.w/\x.w<=64) {e:E} (h:WS ls e):bitsM ls e=ownB ls e (cntB ls e)++(e.l.map (bitsM ls)).flatten:=by
 unfold bitsM
 rw [partsE_eq,allNums_append,allNums_flat,ownB_spans hls h]
abbrev UAt (w:World) (x:Nat) (b o:Nat):Prop:=Has w b o [.int .u64 (x:Int)]
abbrev Us (w:World) (s:Value) (l:List Nat):Prop:=Sl 1 (UAt w) s l
theorem Us.ext {w w':World} {s:Value} {l:List Nat} (h:Us w s l) (hx:Ext w w'):Us w' s l:=h.mono fun _ _ _ _ h=>Has.ext h hx
theorem Us.get {w:World} {l:List Nat} {b o k:Nat} (h:Rows 1 (UAt w) l b o) (hk:k<l.length):w.cell? ⟨b,o+k,none⟩=some (.int .u64 (l[k]:Nat)):=by
 have:=h.get (List.getElem?_eq_getElem hk) 0 _ rfl
 rw [Nat.mul_one] at this
 exact this
def us64 (l:List Nat):Prop:=∀ x∈l,x<18446744073709551616
theorem bsN_run {P:Program} {w:World} {t:TypeId} {e:TypeId} {size bytes:Nat} (hT:AppT P t e size bytes) (vs:List Value) (css:List (List Value)) (h:vs.map (·.cells)=css.map List.toArray) (hl:∀ cs∈css,cs.length=size) (h0:0<vs.length) (hn:vs.length*size<=16777216) :
  (Instr.buildSlice t vs.length ((vs.zipIdx 0).map fun x=>(x.2,x.1)).toArray).run P w=.ok (.slice (some ⟨w.heap.size,0,none⟩) vs.length vs.length) (w.alloc (.cells css.flatten.toArray e)):=by
 obtain ⟨ht,hinfo,hsz,hby⟩:=hT
 cases hi:P.info? e with
 | none=>simp [hi] at hinfo
 | some i =>
  simp only [hi,Option.map_some,Option.some.injEq,Prod.mk.injEq] at hinfo
  obtain ⟨hz0,hsi,hb⟩:=hinfo
  cases hz:i.zero with
  | none=>simp [hz] at hz0
  | some z =>
   have hv2:∀ v∈vs,v.cells.size=size:=by
    intro v hv
    have:v.cells∈css.map List.toArray:=by rw [<-h];exact List.mem_map_of_mem hv
    obtain ⟨cs,hc,he⟩:=List.mem_map.1 this
    rw [<-he];simp [hl cs hc]
   have hf:=Great.fill_whole (s:=size) hsz vs ((Array.range (vs.length*size)).map (z.cells[·%z.cells.size]!)) hv2 (by simp)
   have hflat:(vs.flatMap fun v=>v.cells.toList)=css.flatten:=by
    rw [List.flatMap_def]
    have:vs.map (fun v=>v.cells.toList)=css:=by
     have:=congrArg (List.map Array.toList) h
     simpa [List.map_map,Function.comp_def] using this
    rw [this]
   rw [hflat] at hf
   refine run_buildSlice (P:=P) w t e vs.length _ css.flatten.toArray i z ht hi hz (by rw [hsi];omega) (by rw [hsi];have:=Nat.mul_pos h0 hsz;omega) ?_
   rw [hsi];exact hf
theorem wpList_bsN {P:Program} {ops:Array Oper} {rest:List Oper} {o:Oper} {a:Act} {w:World} {Q:Exit->Act->World->Prop} (hw:Region.wanted o (yielded ops a.tmps)=true) (t:TypeId) (n:Nat) (ps:Array (Nat × Operand))
  (ho:o.op=.buildSlice t n ps) {e:TypeId} {size bytes:Nat} (hT:AppT P t e size bytes) {vs:List Value} (hx:ps.toList.map (fun p=>(p.1,a.eval p.2))=(vs.zipIdx 0).map fun x=>(x.2,x.1)) (hvn:vs.length=n) {css:List (List Value)} (hv:vs.map (·.cells)=css.map List.toArray)
  (hl:∀ cs∈css,cs.length=size) (h0:0<n) (hn:n*size<=16777216)
  (h:wpList P ops Q rest (a.put o.dst (.slice (some ⟨w.heap.size,0,none⟩) n n)) (w.alloc (.cells css.flatten.toArray e))):wpList P ops Q (o::rest) a w :=
 BigFrame.wpList_want hw fun _ hK=>by
  subst hvn
  have hr:=bsN_run (w:=w) hT vs css hv hl h0 hn
  unfold Oper.wp execOp
  simp only [ho]
  have hx':(ps.map fun p=>(p.1,a.eval p.2))=((vs.zipIdx 0).map fun x=>(x.2,x.1)).toArray:=by
   apply Array.ext'
   rw [Array.toList_map,hx]
  rw [hx']
  simp only [Sem.run_bind,hr,Result.andThen_ok,Sem.run_pure]
  exact hK _ _ h
theorem step_bsN {P:Program} {ops:Array Oper} {o:Oper} {a:Act} {w:World} {K:Act->World->Prop} {Q:Exit->Act->World->Prop} {E:Prop} (hw:Region.wanted o (yielded ops a.tmps)=true) (t:TypeId) (n:Nat) (ps:Array (Nat × Operand))
  (ho:o.op=.buildSlice t n ps) {e:TypeId} {size bytes:Nat} (hT:AppT P t e size bytes) {vs:List Value} (hx:ps.toList.map (fun p=>(p.1,a.eval p.2))=(vs.zipIdx 0).map fun x=>(x.2,x.1)) (hvn:vs.length=n) {css:List (List Value)} (hv:vs.map (·.cells)=css.map List.toArray)
  (hl:∀ cs∈css,cs.length=size) (h0:0<n) (hn:n*size<=16777216)
  (h:K (a.put o.dst (.slice (some ⟨w.heap.size,0,none⟩) n n)) (w.alloc (.cells css.flatten.toArray e))):if Region.wanted o (yielded ops a.tmps)=true then Oper.wp P o a w K Q else E:=by
 rw [if_pos hw]
 subst hvn
 have hr:=bsN_run (w:=w) hT vs css hv hl h0 hn
 unfold Oper.wp execOp
 simp only [ho]
 have hx':(ps.map fun p=>(p.1,a.eval p.2))=((vs.zipIdx 0).map fun x=>(x.2,x.1)).toArray:=by
  apply Array.ext'
  rw [Array.toList_map,hx]
 rw [hx']
 simp only [Sem.run_bind,hr,Result.andThen_ok,Sem.run_pure]
 exact h
theorem appBits:AppT Tryz.prog 112 69 2 16:=⟨Tryz.underlying112,by kernel_rfl,by decide,by decide⟩
theorem Bts.of_blk {w:World} {B:Nat} (l:List Bt) {T:TypeId} (cap:Nat) (h:Blk w B (l.map Bt.cells).flatten.toArray T) (hc:l.length<=cap) (hm:cap<=maxLen):Bts w (.slice (some ⟨B,0,none⟩) l.length cap) l :=
 ⟨B,0,⟨_,cap,rfl,hc,hm,fun _=>rfl⟩,rows_flat (f:=Bt.cells) (fun _=>rfl) l 0 h.has⟩
theorem Cond_calls (c a b:Bt) (hc:c.ok) (ha:a.ok) (hb:b.ok) (hc1:c.w=1) (hab:a.w=b.w) (w:World) :
  Calls Tryz.prog 63 #[.agg c.cells.toArray,.agg a.cells.toArray,.agg b.cells.toArray] w (BtPost w ⟨a.w,if c.v=1 then a.v else b.v⟩):=by
 have x1:=ext_alloc w (.cells c.cells.toArray 69)
 have x2:=ext_alloc (w.alloc (.cells c.cells.toArray 69)) (.cells a.cells.toArray 69)
 have x3:=ext_alloc ((w.alloc (.cells c.cells.toArray 69)).alloc (.cells a.cells.toArray 69)) (.cells b.cells.toArray 69)
 have x4:=ext_alloc (((w.alloc (.cells c.cells.toArray 69)).alloc (.cells a.cells.toArray 69)).alloc (.cells b.cells.toArray 69)) (.cells #[.int .i64 0,.int .u64 0] 69)
 have hC:=(((Blk.new w c.cells.toArray 69).ext x2).ext x3).ext x4
 have hA:=((Blk.new (w.alloc (.cells c.cells.toArray 69)) a.cells.toArray 69).ext x3).ext x4
 have hB:=(Blk.new ((w.alloc (.cells c.cells.toArray 69)).alloc (.cells a.cells.toArray 69)) b.cells.toArray 69).ext x4
 have hR:=Blk.new (((w.alloc (.cells c.cells.toArray 69)).alloc (.cells a.cells.toArray 69)).alloc (.cells b.cells.toArray 69)) #[.int .i64 0,.int .u64 0] 69
 have HX:=((x1.trans x2).trans x3).trans x4
 simp only [World.size_alloc] at hA hB hR
 clear x1 x2 x3 x4
 have HAL:=Jh (fun (s:Value) (W:World) (h:Bts W s [c,a,b])=>all_calls [c,a,b] (by simp;exact ⟨hc,ha,hb⟩) s W h)
 have HMD:=fun (wd:Int) (n:Nat) (hn:n<2^64) (h0:0<=wd) (h1:wd<=64) (w:World)=>made_callsN wd n hn h0 h1 w
 have ha64:=Bt.lt64 ha
 have hb64:=Bt.lt64 hb
 have a1:=ha.1
 have a2:=ha.2.1
 have a3:=Jh ha.2.2
 have b3:=Jh hb.2.2
 clear hc ha hb
 obtain ⟨cw,cv⟩:=c
 obtain ⟨wd,av⟩:=a
 obtain ⟨bw,bv⟩:=b
 simp only at hc1 hab ha64 hb64 a1 a2 a3 b3
 subst hc1
 subst hab
 obtain ⟨tv,htv⟩:∃ tv,(if cv=1 then av else bv)=tv:=⟨_,rfl⟩
 have HTV:=Jh htv
 rw [htv]
 have htb:tv<2^64:=by rw [<-htv];split<;>assumption
 have htw:=Jh (show tv<2^wd.toNat by rw [<-htv];(split;exact a3.out;exact b3.out))
 clear htv
 go_enter Tryz.func63,Tryz.ntmps63
 go_upto_region 1 with fail
 have hsz:((((w.alloc (.cells (Bt.cells ⟨1,cv⟩).toArray 69)).alloc (.cells (Bt.cells ⟨wd,av⟩).toArray 69)).alloc (.cells (Bt.cells ⟨wd,bv⟩).toArray 69)).alloc (.cells #[.int .i64 0,.int .u64 0] 69)).heap.size=w.heap.size+1+1+1+1:=by simp
 generalize (((w.alloc _).alloc _).alloc _).alloc _=w0 at *
 have hB1:=hB.has
 have HC:=Jh hC
 have HA:=Jh hA
 have HB:=Jh hB
 have HR:=Jh hR
 clear hC hA hB hR
 go_upto_region 2 with (first | ((with_reducible show Jl 69);refine Jm 69 (hB1) agg_Bits rfl ?_) | ((with_reducible show Js 69);refine wpList_store_new rfl 69 _ _ rfl rfl (by first | rfl | simp) rfl agg_Bits (rfl) rfl (rfl) ?_))
 have hx5:=ext_alloc w0 (.cells (Bt.cells ⟨wd,bv⟩).toArray 69)
 have hT5:=Blk.new w0 (Bt.cells ⟨wd,bv⟩).toArray 69
 generalize w0.alloc _=w5 at *
 rw [hsz] at hT5
 have g1:=(HC.out.ext hx5).has 1 _ rfl
 go_upto_if 12 with fail
 go_cut [7] from 12 to 14 (fun u wx=>u=.int .i64 0/\Ext w wx/\Blk wx w.heap.size (Bt.cells ⟨1,cv⟩).toArray 69/\Blk wx (w.heap.size+1) (Bt.cells ⟨wd,av⟩).toArray 69/\Blk wx (w.heap.size+1+1) (Bt.cells ⟨wd,bv⟩).toArray 69/\Blk wx (w.heap.size+1+1+1) #[.int .i64 0,.int .u64 0] 69/\Blk wx (w.heap.size+1+1+1+1) (Bt.cells ⟨wd,tv⟩).toArray 69)
 case first =>
  by_cases h1:cv=1
  ·have b1:((cv:Int)==1)=true:=by rw [beq_iff_eq];omega
   have ht:=HTV.out
   rw [if_pos h1] at ht
   subst ht
   clear h1
   have hA1:=(HA.out.ext hx5).has
   go_wp2_with (first | ((with_reducible show Jl 69);refine Jm 69 (hA1) agg_Bits rfl ?_) | ((with_reducible show Js 69);refine wpList_store_blk rfl 69 _ _ rfl (hT5) rfl (cs:=Bt.cells ⟨wd,av⟩) (rfl) agg_Bits (rfl) rfl (rfl) ?_;intro w4 hb4 hg4))
   go_meet
   exact ⟨rfl,(HX.trans hx5).grown hg4 (by omega),(HC.out.ext hx5).grown hg4 (by omega),(HA.out.ext hx5).grown hg4 (by omega),(HB.out.ext hx5).grown hg4 (by omega),(HR.out.ext hx5).grown hg4 (by omega),hb4⟩
  ·have b1:((cv:Int)==1)=false:=by rw [beq_eq_false_iff_ne];omega
   have ht:=HTV.out
   rw [if_neg h1] at ht
   subst ht
   clear h1
   go_wp2_with fail
   go_meet
   exact ⟨rfl,HX.trans hx5,HC.out.ext hx5,HA.out.ext hx5,HB.out.ext hx5,HR.out.ext hx5,hT5⟩
 case rest =>
  obtain ⟨rfl,k1,k2,k3,k4,k5,k6⟩:=hcut
  have HK5:=Jh k5
  clear HTV HC HA HB HR hx5 hT5 g1
  go_upto_region 4 with fail
  refine wp_region_held_drew (S:=fun W=>Ext w W/\Blk W w.heap.size (Bt.cells ⟨1,cv⟩).toArray 69/\Blk W (w.heap.size+1) (Bt.cells ⟨wd,av⟩).toArray 69/\Blk W (w.heap.size+1+1) (Bt.cells ⟨wd,bv⟩).toArray 69/\Blk W (w.heap.size+1+1+1+1) (Bt.cells ⟨wd,tv⟩).toArray 69) (by kernel_rfl) ⟨k1.drew,k2.drew,k3.drew,k4.drew,k6.drew⟩ (fun hH=>?_)
  clear k1 k2 k3 k4 k5 k6
  try simp only [J]
  (refine Jt 0 (.agg (Bt.cells ⟨1,cv⟩).toArray) rfl (yif_load rfl 69 _ rfl rfl (fun W hW=>hW.2.1.has) agg_Bits rfl) hH ?_;try simp only [J])
  (refine Jt 1 (.agg (Bt.cells ⟨wd,av⟩).toArray) rfl (yif_load rfl 69 _ rfl rfl (fun W hW=>hW.2.2.1.has) agg_Bits rfl) hH ?_;try simp only [J])
  (refine Jt 2 (.agg (Bt.cells ⟨wd,bv⟩).toArray) rfl (yif_load rfl 69 _ rfl rfl (fun W hW=>hW.2.2.2.1.has) agg_Bits rfl) hH ?_;try simp only [J])
  (refine Jt 17 (_) rfl (yif_load1 rfl fun _ _=>rfl) hH ?_;try simp only [J])
  (refine Jt 18 (.int .i64 wd) rfl (yif_load1 rfl (by intro W hW;have y:=hW.2.2.2.2.has 0 _ rfl;clear hW;go_simp)) hH ?_;try simp only [J])
  (refine Jt 19 (_) rfl (yif_load1 rfl fun _ _=>rfl) hH ?_;try simp only [J])
  (refine Jt 20 (.int .u64 (tv:Int)) rfl (yif_load1 rfl (by intro W hW;have y:=hW.2.2.2.2.has 1 _ rfl;clear hW;go_simp)) hH ?_;try simp only [J])
  (refine Jr 3 rfl fun K hK=>?_)
  refine step_bsN rfl _ 3 _ rfl appBits (vs:=[.agg (Bt.cells ⟨1,cv⟩).toArray,.agg (Bt.cells ⟨wd,av⟩).toArray,.agg (Bt.cells ⟨wd,bv⟩).toArray]) rfl rfl (css:=[Bt.cells ⟨1,cv⟩,Bt.cells ⟨wd,av⟩,Bt.cells ⟨wd,bv⟩]) rfl (by simp) (by decide) (by decide) ?_
  have hxb:=ext_alloc wc.drew (.cells ([Bt.cells ⟨1,cv⟩,Bt.cells ⟨wd,av⟩,Bt.cells ⟨wd,bv⟩].flatten.toArray) 69)
  have hbs:=Bts.of_blk [⟨1,cv⟩,⟨wd,av⟩,⟨wd,bv⟩] 3 (Blk.new wc.drew ([Bt.cells ⟨1,cv⟩,Bt.cells ⟨wd,av⟩,Bt.cells ⟨wd,bv⟩].flatten.toArray) 69) (by simp) (by decide)
  have HAC:=Jh (HAL.out _ _ hbs)
  have HK6:=Jh (HK5.out.drew.ext hxb)
  refine hK.out _ _ ⟨hH.1.trans hxb,hH.2.1.ext hxb,hH.2.2.1.ext hxb,hH.2.2.2.1.ext hxb,hH.2.2.2.2.ext hxb⟩ (fun hH=>?_)
  clear hK K hbs hxb HAL HK5
  generalize wc.drew.alloc _=w6 at *
  generalize wc.drew.heap.size=B6 at *
  try simp only [J]
  (refine Jr 4 rfl fun K hK=>?_)
  go_simp
  refine HAC.out.mono ?_
  rintro r w7 ⟨rfl,hx7⟩
  refine hK.out _ _ ⟨hH.1.trans hx7,hH.2.1.ext hx7,hH.2.2.1.ext hx7,hH.2.2.2.1.ext hx7,hH.2.2.2.2.ext hx7⟩ (fun hH=>?_)
  clear hK K HAC
  try simp only [J]
  (refine Jt 5 (_) rfl (yif_load1 rfl fun _ _=>rfl) hH ?_;try simp only [J])
  (refine Jt 6 (_) rfl (yif_load1 rfl fun _ _=>rfl) hH ?_;try simp only [J])
  (refine Jt 7 (.int .i64 1) rfl (yif_load1 rfl (by intro W hW;have y:=hW.2.1.has 0 _ rfl;clear hW;go_simp)) hH ?_;try simp only [J])
  (refine Jt 8 (.bool true) rfl (yif_load1 rfl (by intro W hW;clear hW;go_simp)) hH ?_;try simp only [J])
  (refine Jt 9 (.bool true) rfl (yif_load1 rfl (by intro W hW;clear hW;go_simp)) hH ?_;try simp only [J])
  (refine Jt 10 (_) rfl (yif_load1 rfl fun _ _=>rfl) hH ?_;try simp only [J])
  (refine Jt 11 (_) rfl (yif_load1 rfl fun _ _=>rfl) hH ?_;try simp only [J])
  (refine Jt 12 (.int .i64 wd) rfl (yif_load1 rfl (by intro W hW;have y:=hW.2.2.1.has 0 _ rfl;clear hW;go_simp)) hH ?_;try simp only [J])
  (refine Jt 13 (_) rfl (yif_load1 rfl fun _ _=>rfl) hH ?_;try simp only [J])
  (refine Jt 14 (.int .i64 wd) rfl (yif_load1 rfl (by intro W hW;have y:=hW.2.2.2.1.has 0 _ rfl;clear hW;go_simp)) hH ?_;try simp only [J])
  (refine Jt 15 (.bool true) rfl (yif_load1 rfl (by intro W hW;clear hW;go_simp)) hH ?_;try simp only [J])
  (refine Jt 16 (.bool true) rfl (yif_load1 rfl (by intro W hW;clear hW;go_simp)) hH ?_;try simp only [J])
  (refine Jr 21 rfl fun K hK=>?_)
  go_simp
  refine (HMD wd tv htb (by omega) (by omega) _).mono ?_
  rintro r w8 ⟨rfl,hx8⟩
  refine hK.out _ _ ⟨hH.1.trans hx8,hH.2.1.ext hx8,hH.2.2.1.ext hx8,hH.2.2.2.1.ext hx8,hH.2.2.2.2.ext hx8⟩ (fun hH=>?_)
  clear hK K
  try simp only [J]
  (refine Jt 22 (.agg (Bt.cells ⟨wd,tv%2^wd.toNat⟩).toArray) rfl (yif_load1 rfl (by intro W hW;clear hW;go_simp)) hH ?_;try simp only [J])
  (refine Jt 23 (.int .i64 0) rfl (yif_load1 rfl (by intro W hW;clear hW;go_simp)) hH ?_;try simp only [J])
  (refine Jr 24 rfl fun K hK=>?_)
  refine step_store_blk' rfl 69 _ _ rfl ((HK6.out.ext hx7).ext hx8) rfl (cs:=Bt.cells ⟨wd,tv%2^wd.toNat⟩) rfl agg_Bits rfl rfl rfl ?_
  intro w9 hb9 hg9
  refine hK.out _ _ ⟨hH.1.grown hg9 (by omega),hH.2.1.grown hg9 (by omega),hH.2.2.1.grown hg9 (by omega),hH.2.2.2.1.grown hg9 (by omega),hH.2.2.2.2.grown hg9 (by omega)⟩ (fun hH=>?_)
  clear hK K
  try simp only [J]
  (refine Jt 25 (.int .i64 0) rfl (yif_load1 rfl (by intro W hW;clear hW;go_simp)) hH ?_;try simp only [J])
  refine Jz ?_
  go_wp2_with ((with_reducible show bodyPost _ _ _ _ _ _);refine Hid.out ?_)
  refine Jh ?_
  refine post_ret_blk2' rfl rfl rfl hb9.has agg_Bits rfl rfl ⟨?_,hH.1⟩
  rw [Nat.mod_eq_of_lt htw.out];rfl
def VBt (_:World) (cs:List Value) (x:Bt):Prop:=cs=x.cells
theorem VBt.at {W:World} {cs:List Value} {x:Bt} {b o:Nat} (h:Has W b o cs) (hv:VBt W cs x):BtAt W x b o:=by subst hv;exact h
theorem VBt.st {N:Nat} {R:Option Nat} {w:World} {x:Bt}:StV VBt N R w x.cells x:=fun _ _ _=>rfl
theorem RowIs.empty {α:Type} {V:World->List Value->α->Prop} {e:TypeId} {size N B:Nat} {w:World} (hb:Blk w B #[] e) (hN:N<=B):RowIs V e size N (.slice (some ⟨B,0,none⟩) 0 0) ([]:List α) w :=
 ⟨[],⟨by simp,.inr ⟨B,0,#[],rfl,hN,hb,Nat.le_refl _,by simp [maxLen],by simp,by simp⟩⟩,rfl,by simp,fun i h=>by simp at h⟩
def UpSaid (g:FuncId) (lb:Array Value) (f:E->Bt) (wb:World) (e:E):Prop:=∀ (cs:List Value) (w:World),Ext wb w->VE w cs e->nodes e<=1048576 ->
 Calls Tryz.prog 26 #[.agg cs.toArray,.func (.func g) #[] lb] w fun r w'=>r=.returned (.agg (f e).cells.toArray)/\Ext w w'
theorem upB_step (g:FuncId) (lb:Array Value) (eg:Leads Tryz.prog g) (f:E->Bt) (wb:World) (e:E)
  (hmk:∀ (cs:List Value) (s:Value) (W:World),Ext wb W->VE W cs e->Bts W s (e.l.map f)->Calls Tryz.prog g (#[.agg cs.toArray,s]++lb) W fun r w'=>r=.returned (.agg (f e).cells.toArray)/\Ext W w')
  (ih:∀ x∈e.l,UpSaid g lb f wb x):UpSaid g lb f wb e:=by
 intro cs w hx0 hV hn
 have HMK:=Jh hmk
 have IH:=Jh ih
 have HX0:=Jh hx0
 have HVW:=Jh (fun W (h:Ext w W)=>hV.ext h)
 have hnn:=nodes_eq e
 obtain ⟨s,rfl,hs⟩:=hV
 have HSW:=Jh (fun W (h:Ext w W)=>hs.ext h)
 obtain ⟨a,b,o,cap,rfl,hc1,hc2,ha,hr⟩:=hs.open
 clear hmk ih hx0 hs
 have x1:=ext_alloc w (.cells (e.cells (.slice a e.l.length cap)).toArray 31)
 have x2:=ext_alloc (w.alloc (.cells (e.cells (.slice a e.l.length cap)).toArray 31)) (.cells #[.int .i64 0,.int .u64 0] 69)
 have hE:=(Blk.new w (e.cells (.slice a e.l.length cap)).toArray 31).ext x2
 have hR:=Blk.new (w.alloc (.cells (e.cells (.slice a e.l.length cap)).toArray 31)) #[.int .i64 0,.int .u64 0] 69
 have hX:=x1.trans x2
 simp only [World.size_alloc] at hR
 clear x1 x2
 have HN:=Jh hn
 have HNN:=Jh hnn
 clear hn hnn
 go_enter Tryz.func26,Tryz.ntmps26
 go_upto_region 1 with fail
 generalize (w.alloc _).alloc _=w0 at *
 have x3:=ext_alloc w0 (.cells #[] 69)
 have hL:=Blk.new w0 #[] 69
 have HE:=Jh (hE.ext x3)
 have HE0:=Jh hE
 have HR0:=Jh hR
 have HX1:=Jh hX
 have hrow:=RowIs.empty (V:=VBt) (size:=2) (N:=w0.heap.size) hL (Nat.le_refl _)
 have hsl:w0.heap.size<(w0.alloc (.cells #[] 69)).heap.size:=by simp
 have hx3:=x3
 clear hE hR hX x3 hL
 go_wp2_with ((with_reducible show Jw (Op.buildSlice _ _ _));refine wpList_bs0 rfl _ rfl appBits ?_;have g7:=HE.out.has 7 _ rfl)
 generalize w0.alloc _=w1 at *
 go_loopw [5,7,12] (fun v _ i wr=>∃ k:Nat,k<=e.l.length/\i=.int .i64 k/\RowIs VBt 69 2 w0.heap.size v ((e.l.take k).map f) wr/\Ext w0 wr) (fun _ _ i _=>e.l.length-(intOf i).toNat)
 case atStart=>exact ⟨0,Nat.zero_le _,rfl,hrow,hx3⟩
 case round =>
  obtain ⟨k,hk,rfl,hrow,hB⟩:=hrel
  have HROW:=Jh hrow
  have HXB:=Jh hB
  have hsz:=hB.size
  clear hrow hB hx3
  by_cases hlt:k<e.l.length
  ·obtain rfl:=ha (by omega)
   have hmem:e.l[k]∈e.l:=List.getElem_mem hlt
   have hle:=le_sumBy nodes e.l _ hmem
   have hnk:nodes e.l[k]<=1048576:=by have:=HN.out;have:=HNN.out;omega
   obtain ⟨s2,h1,h2⟩:=Es.get (hr.mono fun x _ b o h=>EAt.ext ((HX1.out.trans HXB.out)) x b o h) hlt
   have hve:VE wr (e.l[k].cells s2) e.l[k]:=⟨s2,rfl,h2⟩
   have hex:=ext_alloc wr (.cells (e.l[k].cells s2).toArray 31)
   have hbx:=Has.alloc wr (e.l[k].cells s2) 31
   have HC:=Jh (IH.out _ hmem (e.l[k].cells s2) _ ((HX0.out.trans (HX1.out.trans HXB.out)).trans hex) (hve.ext hex) hnk)
   have hone:(e.l[k].cells s2).all (·.oneCell')=true:=hve.one
   have hat:(e.l.take (k+1)).map f=(e.l.take k).map f++[f e.l[k]]:=by rw [take_snoc _ _ hlt,List.map_append,List.map_cons,List.map_nil]
   have hln:((e.l.take k).map f).length=k:=by rw [List.length_map,List.length_take];omega
   have HAT:=Jh hat
   have HLN:=Jh hln
   have HK:=Jh (show k+1<=16777216 by have:=HN.out;have:=HNN.out;have:=length_le_sumBy nodes e.l (fun x _=>nodes_pos x);omega)
   generalize (e.l.take k).map f=rr at *
   generalize e.l[k]=x at *
   clear hat hln hve h2 hle hnk hmem
   go_upto_region 5 with (first | ((with_reducible show Jl 31);refine Jm 31 (h1) agg_E rfl ?_) | ((with_reducible show Js 31);refine wpList_store_new rfl 31 _ _ rfl rfl (by first | rfl | simp) rfl agg_E (rfl) rfl (hone) ?_))
   generalize wr.alloc _=w2 at *
   have HX2:=Jh hex
   clear hex h1
   go_wp2_with (first | ((with_reducible show Jl 31);refine Jm 31 (hbx) agg_E rfl ?_) | (go_at_call 26;refine (HC.out).mono ?_;rintro r w3 ⟨rfl,hx3⟩) | ((with_reducible show Jw (Op.buildSlice _ _ _));refine wpList_bs1 rfl _ _ rfl appBits rfl (cs:=(f x).cells) rfl rfl (by decide) ?_) | ((with_reducible show Jw (Op.call { callee:=.builtin .append,args:=_,argTypes:=_ }));refine Hid.out ?_))
   refine Jh ?_
   have hx4:=ext_alloc w3 (.cells (f x).cells.toArray 69)
   have hb4:=Has.alloc w3 (f x).cells 69
   have hall:=(HX2.out.trans hx3).trans hx4
   have hrow4:=HROW.out.since (Since.of_ext (N:=w0.heap.size) hall)
   have hkk:=HK.out
   have hln:=HLN.out
   refine wpList_app1 rfl _ _ _ rfl appBits rfl hrow4 rfl rfl hb4 rfl (y:=f x) VBt.st (by omega) (by have:=hall.size;omega) ?_
   intro g7 cap7 w7 hrow7 hg7
   have hX7:Ext w0 w7:=Ext.grownO (HXB.out.trans hall) hg7 (fun j hj=>(hrow4.lt j hj).1)
   have HR7:=Jh hrow7
   have HX7:=Jh hX7
   clear hrow7 hX7 hg7 hrow4 hx4 hb4 hall hkk
   rw [hln]
   clear hln
   generalize w3.alloc _=w4 at *
   go_wp2_with fail
   go_roundw
   case rel=>exact ⟨k+1,by omega,by go_num,by have h:=HR7.out;rw [HLN.out] at h;rw [HAT.out];exact h,HX7.out⟩
   case measure=>simp [intOf];omega
  ·obtain rfl:k=e.l.length:=by omega
   rw [List.take_length] at HROW
   have hsl:=RowIs.sl (V:=VBt) (At:=BtAt) (fun _ _ _ _ _ h hv=>VBt.at h hv) HROW.out (Since.refl _ wr)
   have HC:=Jh (HMK.out _ _ wr (HX0.out.trans (HX1.out.trans HXB.out)) (HVW.out wr (HX1.out.trans HXB.out)) hsl)
   have e0:=(HE0.out.ext HXB.out).has
   obtain ⟨ra,rcap,hre,-⟩:=HROW.out.open
   rw [List.length_map] at hre
   subst hre
   clear hsl
   go_wp2_with (first | ((with_reducible show Jl 31);refine Jm 31 (e0) agg_E rfl ?_) | ((with_reducible show Jw (Op.call { callee:=.value (.tmp _),args:=_,argTypes:=_ }));refine wpList_call_fv rfl _ _ _ rfl rfl eg rfl HC.out ?_;intro w5 hx5) | ((with_reducible show Js 69);refine wpList_store_blk rfl 69 _ _ rfl ((HR0.out.ext HXB.out).ext hx5) rfl (cs:=(f e).cells) (rfl) agg_Bits (rfl) rfl (rfl) ?_;intro w6 hb6 hg6))
   refine post_ret_blk rfl rfl hb6.has agg_Bits rfl rfl ⟨rfl,?_⟩
   exact ((HX1.out.trans HXB.out).trans hx5).grown hg6 (by omega)
theorem upB_calls (g:FuncId) (lb:Array Value) (eg:Leads Tryz.prog g) (f:E->Bt) (wb:World) (Good:E->Prop) (hgood:∀ e,Good e->∀ x∈e.l,Good x)
  (hmk:∀ e,Good e->∀ (cs:List Value) (s:Value) (W:World),Ext wb W->VE W cs e->Bts W s (e.l.map f)->Calls Tryz.prog g (#[.agg cs.toArray,s]++lb) W fun r w'=>r=.returned (.agg (f e).cells.toArray)/\Ext W w')
  (e:E):Good e->UpSaid g lb f wb e :=
 E.ind (P:=fun e=>Good e->UpSaid g lb f wb e) (fun e ih h=>upB_step g lb eg f wb e (hmk e h) fun x hx=>ih x hx (hgood e h x hx)) e
end Go.Proofs.YtpngepnfinbaoaaGreat
