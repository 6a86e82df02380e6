/- Laws and walks that a claim of this seat leans on: StmtS. -/
import Derived.Test.YtpngepnfinbaoaaGreatC08
import Derived.Deep.DeepCutAuto
import Derived.Deep.CutBlock
import Derived.Test.YtpngepnfinbaoaaGreatC00
set_option maxRecDepth 100000
set_option maxHeartbeats 8000000
set_option linter.all false
namespace Go.Proofs.YtpngepnfinbaoaaGreat
open Go.RowKit
def StmtPost (w:World) (B:Nat) (sl:Value) (q:T × Int) (r:Ending) (w':World):Prop :=
 ∃ cs',r=.returned (.agg cs'.toArray)/\Blk w' B #[sl,.int .i64 q.2] 95/\w.grownBy w' (some B)/\FV VT w.heap.size w' cs' q.1
def StmtSaid (ls:List Signal) (x:T):Prop:=∀ (ck:Bool) (lab:Int) (B:Nat) (sl:Value) (err:Int) (cs:List Value) (w wb:World),Blk w B #[sl,.int .i64 err] 95->Ext wb w->wb.heap.size<=B ->
 Sigs wb sl ls->VT wb cs x->x.wf->StOk ls x->nodesT x<=1048576 ->
 Calls Tryz.prog 45 #[.pointer (some ⟨B,0,none⟩),.agg cs.toArray,.bool ck,.int .i64 lab] w (StmtPost w B sl (szT ls ck x lab err))
theorem FV.one {N:Nat} {w:World} {cs:List Value} {x:T} (h:FV VT N w cs x):cs.all (·.oneCell')=true:=h.here.one
theorem FV.len {N:Nat} {w:World} {cs:List Value} {x:T} (h:FV VT N w cs x):cs.length=6:=by obtain ⟨s,s',rfl,-⟩:=h.here;rfl
theorem FV.oneE {N:Nat} {w:World} {cs:List Value} {x:E} (h:FV VE N w cs x):cs.all (·.oneCell')=true:=h.here.one
theorem FV.lenE {N:Nat} {w:World} {cs:List Value} {x:E} (h:FV VE N w cs x):cs.length=8:=by obtain ⟨s,rfl,-⟩:=h.here;rfl
theorem RowIs.head {e:TypeId} {N:Nat} {v:Value} {r:List E} {w:World} (h:RowIs VE e 8 N v r w) (h0:0<r.length):∃ g cap,v=.slice (some ⟨g,0,none⟩) r.length cap/\w.cell? ⟨g,1,none⟩=some (.int .i64 (sizeE.hdW r)):=by
 obtain ⟨css,h1,h2,h3,h4⟩:=h
 rcases h1.2 with ⟨rfl,h00⟩ | ⟨g,cap,cur,rfl,hb,hgg,hnc,hcm,hcs,htake⟩
 ·omega
 ·refine ⟨g,cap,rfl,?_⟩
  cases css with
  | nil=>simp at h2;omega
  | cons c css =>
   cases r with
   | nil=>simp at h0
   | cons y r =>
    obtain ⟨s,hs,-⟩:=h4 0 (by simp) (by simp) w (Nat.le_refl _) (fun _ _ _ _=>rfl)
    simp only [Jb] at hs
    rw [cell_of_row w g 1 cur e (0,0) hgg]
    have:(cur.toList.take ((y::r).length*8))[1]? = some (.int .i64 y.w):=by rw [htake,hs];rfl
    rw [List.getElem?_take] at this
    split at this
    ·simp only [Array.getElem?_toList] at this;exact this
    ·cases this
theorem Ext.grownO {w0 w w':World} {R:Option Nat} (h:Ext w0 w) (hg:w.grownBy w' R) (hR:∀ k,R=some k->w0.heap.size<=k):Ext w0 w':=Below.grown h hg h.size hR
theorem gb_grownO {a w w':World} {B:Nat} {R:Option Nat} (h:a.grownBy w (some B)) (hg:w.grownBy w' R) (hR:∀ k,R=some k->a.heap.size<=k):a.grownBy w' (some B) :=
 ⟨hg.os.trans h.os,hg.tape.trans h.tape,hg.output.trans h.output,Nat.le_trans h.size hg.size,fun j hj hne=>(hg.block j (Nat.lt_of_lt_of_le hj h.size) (by intro e;have:=hR j e.symm;omega)).trans (h.block j hj hne)⟩
theorem Blk.grownO {w w':World} {B:Nat} {cs:Array Value} {T:TypeId} {R:Option Nat} (h:Blk w B cs T) (hg:w.grownBy w' R) (hR:∀ k,R=some k->B<k):Blk w' B cs T :=
 (hg.block B h.lt (by intro e;have:=hR B e.symm;omega)).trans h
abbrev zeroT:List Value:=[.int .i64 0,.int .i64 0,.int .i64 0,.int .i64 0,.slice Option.none 0 0,.slice Option.none 0 0]
theorem statement_step (ls:List Signal) (t:T) (ih:∀ x∈t.l,StmtSaid ls x):StmtSaid ls t:=by
 intro ck lab B sl err cs w wb hB hxb hBb hS hV hwf hok hn
 have IH:=Jh ih
 clear ih
 have HS:=Jh hS
 have HWK:=Jh ((T.wf_iff _).1 hwf)
 obtain ⟨ok1,ok3,okE,okL⟩:=(StOk_iff ls t).1 hok
 have HOK1:=Jh ok1
 have HOK3:=Jh ok3
 have HOKE:=Jh okE
 have HOKL:=Jh okL
 clear hS hwf hok ok1 ok3 okE okL
 have HM:=Jh (szT_eq ls ck t lab err)
 have hnn:=nodesT_eq t
 have hle1:=length_le_sumBy nodes t.e (fun x _=>nodes_pos x)
 have hle2:=length_le_sumBy nodesT t.l (fun x _=>nodesT_pos x)
 obtain ⟨s1,s2,rfl,he2,he3⟩:=hV
 obtain ⟨a',b',o',cap',hs',hc1',hc2',hsa,hsr⟩:=HS.out.open
 obtain ⟨ae,be,oe,cape,hse,hce1,hce2,hea,her⟩:=he2.open
 obtain ⟨at',bt,ot,capt,hst,hct1,hct2,hta,htr⟩:=he3.open
 subst hs'
 subst hse
 subst hst
 have HSA:=Jh hsa
 have HSR:=Jh hsr
 have HEA:=Jh hea
 have HER:=Jh her
 have HTA:=Jh hta
 have HTR:=Jh htr
 clear hsa hsr hea her hta htr he2 he3
 have hBlt:=hB.lt
 have HX:=(ext_alloc w (.cells (t.cells (.slice ae t.e.length cape) (.slice at' t.l.length capt)).toArray 39)).alloc (.cells zeroT.toArray 39)
 have hb0:=(Blk.new w (t.cells (.slice ae t.e.length cape) (.slice at' t.l.length capt)).toArray 39).alloc (.cells zeroT.toArray 39)
 have hb1:=Blk.new (w.alloc (.cells (t.cells (.slice ae t.e.length cape) (.slice at' t.l.length capt)).toArray 39)) zeroT.toArray 39
 rw [World.size_alloc] at hb1
 have K0:=Jh hb0
 have K1:=Jh hb1
 have KB:=Jh (hB.ext HX)
 have HXB:=Jh (hxb.trans HX)
 have hsz:((w.alloc (.cells (t.cells (.slice ae t.e.length cape) (.slice at' t.l.length capt)).toArray 39)).alloc (.cells zeroT.toArray 39)).heap.size=w.heap.size+1+1:=by simp
 clear hb0 hb1 hB hxb
 go_enter Tryz.func45,Tryz.ntmps45
 go_upto_region 1 with fail
 generalize (w.alloc _).alloc _=w0 at *
 have q0:=K0.out.has 0 _ rfl
 go_upto_block 0 with (fail)
 go_cut [9,10] (fun u _ wr=>u=.int .i64 (szW t lab)/\Blk wr B #[.slice a' ls.length cap',.int .i64 (szErr0 ls ck t err)] 95/\w0.grownBy wr (some B))
 case first =>
  by_cases o1:t.op=1
  ·obtain ⟨i1,i2,i3,i4,i5⟩:=HOK1.out o1
   obtain ⟨k,hk⟩:=Int.eq_ofNat_of_zero_le i1
   have i2':k<ls.length:=by omega
   have he:=Sigs.get (HSR.out.mono fun x _ b o h=>SigAt.ext' HXB.out h) i2'
   obtain rfl:=HSA.out (by omega)
   have hko:kindOf ls t.sig=ls[k].kind:=by simp [kindOf,hk,i2']
   have g2:=he 2 _ rfl
   have he0:szErr0 ls ck t err=if err=0/\(ls[k].kind=1\/ck≠decide (ls[k].kind=4)) then 85 else err:=by unfold szErr0;rw [hko];simp [o1]
   have hw:szW t lab=t.hi-t.lo+1:=by unfold szW;rw [if_pos o1]
   have HW:=Jh hw
   have HE0:=Jh he0
   have b1:(t.op==1)=true:=by rw [beq_iff_eq];exact o1
   have q1:=K0.out.has 1 _ rfl
   rw [hk] at q1
   have q2:=K0.out.has 2 _ rfl
   have q3:=K0.out.has 3 _ rfl
   have p0:=KB.out.cell 0
   have p1:=KB.out.cell 1
   have f1:=KB.out.frozen 1
   simp only [List.getElem?_toArray,List.getElem?_cons_zero,List.getElem?_cons_succ] at p0 p1
   clear he hko hk o1 hw he0 i1 i2
   generalize ls[k].kind=kd at *
   have KB2:=Jh KB.out.drew
   obtain ⟨c0,hc0⟩:∃ c,(err==0)=c:=⟨_,rfl⟩
   obtain ⟨c1,hc1⟩:∃ c,(kd==1)=c:=⟨_,rfl⟩
   obtain ⟨c4,hc4⟩:∃ c,(kd==4)=c:=⟨_,rfl⟩
   have HC0:=Jh hc0
   have HC1:=Jh hc1
   have HC4:=Jh hc4
   have hif:(if err=0/\(kd=1\/ck≠decide (kd=4)) then (85:Int) else err)=if (c0&&(c1||(ck != c4)))=true then 85 else err:=by
    rw [<-hc0,<-hc1,<-hc4]
    congr 1
    rw [Bool.and_eq_true,Bool.or_eq_true,beq_iff_eq,beq_iff_eq,bne_iff_ne]
    have:(kd==4)=decide (kd=4):=by rw [Bool.eq_iff_iff];simp
    rw [this]
   have HIF:=Jh (HE0.out.trans hif)
   clear hif HE0
   go_wp2_with fail
   go_region
   cases c0
   ·go_wp2_with fail
    all_goals go_meet
    all_goals exact ⟨by rw [HW.out],by rw [HIF.out];exact KB2.out,gb_drew (gb_refl _ _)⟩
   ·cases c1
    ·cases c4<;>cases ck
     all_goals (go_wp2_with fail)
     all_goals go_meet
     all_goals first
      | exact ⟨by rw [HW.out],by rw [HIF.out];exact KB2.out,gb_drew (gb_refl _ _)⟩
      | exact ⟨by rw [HW.out],by rw [HIF.out];exact (KB.out.set 1 (.int .i64 85)).drew,gb_drew (gb_set _ _ _ _)⟩
    ·go_wp2_with fail
     all_goals go_meet
     all_goals exact ⟨by rw [HW.out],by rw [HIF.out];exact (KB.out.set 1 (.int .i64 85)).drew,gb_drew (gb_set _ _ _ _)⟩
  ·have b1:(t.op==1)=false:=by rw [beq_eq_false_iff_ne];exact o1
   by_cases o2:t.op=2
   ·have b2:(t.op==2)=true:=by rw [beq_iff_eq];exact o2
    have he:szErr0 ls ck t err=err:=by unfold szErr0;rw [if_neg (fun h=>o1 h.1)]
    have hw:szW t lab = -1:=by unfold szW;rw [if_neg o1,if_pos o2]
    have HE:=Jh he
    have HW:=Jh hw
    clear o1 o2 he hw
    go_wp2_with fail
    all_goals go_meet
    all_goals exact ⟨by rw [HW.out],by rw [HE.out];exact KB.out,gb_refl _ _⟩
   ·have b2:(t.op==2)=false:=by rw [beq_eq_false_iff_ne];exact o2
    have he:szErr0 ls ck t err=err:=by unfold szErr0;rw [if_neg (fun h=>o1 h.1)]
    have HE:=Jh he
    by_cases o3:t.op=3
    ·have b3:(t.op==3)=true:=by rw [beq_iff_eq];exact o3
     have hw:szW t lab=0:=by unfold szW;rw [if_neg o1,if_neg o2,if_pos o3]
     have HW:=Jh hw
     clear o1 o2 o3 he hw
     go_wp2_with fail
     all_goals go_meet
     all_goals exact ⟨by rw [HW.out],by rw [HE.out];exact KB.out,gb_refl _ _⟩
    ·have b3:(t.op==3)=false:=by rw [beq_eq_false_iff_ne];exact o3
     have hw:szW t lab=lab:=by unfold szW;rw [if_neg o1,if_neg o2,if_neg o3]
     have HW:=Jh hw
     clear o1 o2 o3 he hw
     go_wp2_with fail
     all_goals go_meet
     all_goals exact ⟨by rw [HW.out],by rw [HE.out];exact KB.out,gb_refl _ _⟩
 case rest =>
  obtain ⟨rfl,hkb,hg0⟩:=hcut
  obtain ⟨w1,hw1⟩:∃ x,szW t lab=x:=⟨_,rfl⟩
  obtain ⟨e0,he0⟩:∃ x,szErr0 ls ck t err=x:=⟨_,rfl⟩
  have hm:=HM.out
  rw [hw1,he0] at hm
  rw [he0] at hkb
  rw [hw1]
  have HM2:=Jh hm
  have KB1:=Jh hkb
  have K01:=Jh (K0.out.grown hg0 (by omega))
  have K11:=Jh (K1.out.grown hg0 (by omega))
  have HXB1:=Jh (HXB.out.grown hg0 hBb)
  have HG0:=Jh hg0
  have hs0:=hg0.size
  clear hm hkb hg0 hw1 he0 HM KB K0 K1 HXB q0
  have q4:=K01.out.has 4 _ rfl
  go_wp2_with fail
  clear q4
  go_loopw [11,13,62] (fun u _ i wr=>∃ (k:Nat) (v:Value),v=u/\k<=t.e.length/\i=.int .i64 k/\RowIs VE 31 8 w0.heap.size v (szEs e0 w1 (t.e.take k)).1 wr/\Blk wr B #[.slice a' ls.length cap',.int .i64 (szEs e0 w1 (t.e.take k)).2] 95
   /\ Blk wr w.heap.size (t.cells (.slice ae t.e.length cape) (.slice at' t.l.length capt)).toArray 39/\Blk wr (w.heap.size+1) zeroT.toArray 39/\Ext wb wr/\w.grownBy wr (some B)/\w0.heap.size<=wr.heap.size) (fun _ _ i _=>t.e.length-(intOf i).toNat)
  case atStart=>exact ⟨0,_,rfl,Nat.zero_le _,rfl,RowIs.nil,KB1.out,K01.out,K11.out,HXB1.out,gb_trans (gb_ext HX B) HG0.out,hs0⟩
  case round =>
   obtain ⟨k,v,rfl,hk,rfl,hrow,r0,r1,r2,hB,hG,hsw⟩:=hrel
   have HROW:=Jh hrow
   have R0:=Jh r0
   have R1:=Jh r1
   have R2:=Jh r2
   have HG:=Jh hG
   clear hrow r0 r1 r2 hG
   by_cases hlt:k<t.e.length
   ·obtain ⟨cs,hf1,hn8,hf2⟩:=VE.get (HER.out.mono fun x _ b o h=>EAt.ext' hB h) hlt
    obtain rfl:=HEA.out (by omega)
    have hmem:t.e[k]∈t.e:=List.getElem_mem hlt
    have hle:=le_sumBy nodes t.e _ hmem
    have hat:=szEs_take e0 w1 t.e k hlt
    have HXX:=Jh (ext_alloc wr (.cells cs.toArray 31))
    have HBX:=Jh (Has.alloc wr cs 31)
    have HC:=Jh (expr_calls t.e[k] w1 B _ _ cs _ (R0.out.ext HXX.out) (hf2.ext HXX.out) (HWK.out.2.2.2.2.1 _ hmem) (HOKE.out _ hmem) (by omega))
    have HVE:=Jh hf2
    have HF1:=Jh hf1
    clear hf1 hf2
    generalize t.e[k]=ek at *
    have HAT:=Jh hat
    clear hat
    obtain ⟨q,hq⟩:∃ q,szE (szEs e0 w1 (t.e.take k)).2 ek w1=q:=⟨_,rfl⟩
    rw [hq] at HAT HC
    clear hq
    have hwrx:wr.heap.size<(wr.alloc (.cells cs.toArray 31)).heap.size:=by simp
    have hlen:(szEs e0 w1 (t.e.take k)).1.length=k:=by rw [szEs_length,List.length_take];omega
    have HLN:=Jh hlen
    clear hlen
    obtain ⟨rr,hrr⟩:∃ rr,(szEs e0 w1 (t.e.take k)).1=rr:=⟨_,rfl⟩
    rw [hrr] at HROW HAT HLN
    clear hrr
    go_upto_region 16 with (first | ((with_reducible show Jl 31);refine Jm 31 (HF1.out) agg_E hn8 ?_) | ((with_reducible show Js 31);refine wpList_store_new rfl 31 _ _ rfl rfl (by first | rfl | simp) rfl agg_E (hn8) rfl (HVE.out.one) ?_))
    have HCX:=Jh HXX.out
    generalize wr.alloc _=w2 at *
    go_wp2_with (first | ((with_reducible show Jl 31);refine Jm 31 (HBX.out) agg_E hn8 ?_) | (go_at_call 46;refine HC.out.mono ?_;rintro r w3 ⟨cs3,rfl,hb3,hg3,hfv3⟩;have HFV3:=Jh hfv3;clear hfv3) | ((with_reducible show Jw (Op.buildSlice _ _ _));refine wpList_bs1 rfl _ _ rfl appE rfl (cs:=cs3) rfl HFV3.out.lenE (by decide) ?_) | ((with_reducible show Jw (Op.call { callee:=.builtin .append,args:=_,argTypes:=_ }));refine wpList_app1 (V:=VE) rfl _ _ _ rfl appE rfl (((HROW.out.since (Since.of_ext HXX.out)).since (Since.of_grown hg3 (by omega))).since (Since.of_ext (ext_alloc w3 (.cells cs3.toArray 31)))) rfl HFV3.out.lenE (Has.alloc w3 cs3 31) HFV3.out.oneE ((HFV3.out.ext (ext_alloc w3 (.cells cs3.toArray 31))).st (N:=w0.heap.size) (by omega) (fun k hk=>by have:=(HROW.out.lt k hk).2;omega)) (by rw [HLN.out];omega) (by have:=hg3.size;simp;omega) ?_;rw [HLN.out];intro g4 cap4 w4 hrow4 hg4))
    have hx3:=ext_alloc w3 (.cells cs3.toArray 31)
    have hR:∀ j,v.ownBlock=some j->w0.heap.size<=j:=fun j hj=>(HROW.out.lt j hj).1
    have hgr:=gb_grownO (gb_trans (gb_trans (gb_trans HG.out (gb_ext HXX.out B)) hg3) (gb_ext hx3 B)) hg4 (fun j hj=>by have:=hR j hj;omega)
    have hbw:=(((hB.trans HXX.out).grown hg3 hBb).trans hx3).grownO hg4 (fun j hj=>by have:=hR j hj;have:=HXB1.out.size;omega)
    have hrb:=(hb3.ext hx3).grownO hg4 (fun j hj=>by have:=hR j hj;omega)
    have hr1:=((((R1.out.ext HXX.out).grown hg3 (by omega)).ext hx3).grownO hg4 (fun j hj=>by have:=hR j hj;omega))
    have hr2:=((((R2.out.ext HXX.out).grown hg3 (by omega)).ext hx3).grownO hg4 (fun j hj=>by have:=hR j hj;omega))
    have hs4:w0.heap.size<=w4.heap.size:=by have h2:=HXX.out.size;have h3:=hg3.size;have h4:=hx3.size;have h5:=hg4.size;omega
    go_roundw
    case rel=>exact ⟨k+1,_,rfl,by omega,by go_num,by rw [HAT.out];exact hrow4,by rw [HAT.out];exact hrb,hr1,hr2,hbw,hgr,hs4⟩
    case measure=>simp [intOf];omega
   ·obtain rfl:k=t.e.length:=by omega
    have hrow:=HROW.out
    have hr0:=R0.out
    rw [List.take_length] at hrow hr0
    obtain ⟨re,hre⟩:∃ x,szEs e0 w1 t.e=x:=⟨_,rfl⟩
    have hlre:=szEs_length e0 w1 t.e
    have hm:=HM2.out
    rw [hre] at hrow hr0 hm hlre
    have HM3:=Jh hm
    have HROWE:=Jh hrow
    have RB:=Jh hr0
    have HLRE:=Jh hlre
    clear hm hrow hr0 hre hlre HROW R0 HM2 KB1 K01 K11 HXB1 HG0
    have q0:=R1.out.has 0 _ rfl
    have q5:=R1.out.has 5 _ rfl
    obtain ⟨lab2,hlab2⟩:∃ x,(if t.op=3 then sizeE.hdW re.1 else lab)=x:=⟨_,rfl⟩
    have hm:=HM3.out
    rw [hlab2] at hm
    have HM4:=Jh hm
    have HL2:=Jh hlab2
    clear hm hlab2 HM3
    go_upto_if 76 with fail
    go_cut [3] (fun u wr'=>u=.int .i64 lab2/\wr=wr')
    case first =>
     by_cases o3:t.op=3
     ·obtain ⟨g,cap,rfl,hhd⟩:=HROWE.out.head (by rw [HLRE.out];exact HOK3.out o3)
      have hlr:0<re.1.length:=by rw [HLRE.out];exact HOK3.out o3
      have hv:lab2=sizeE.hdW re.1:=by rw [<-HL2.out,if_pos o3]
      have HV:=Jh hv
      have b3:(t.op==3)=true:=by rw [beq_iff_eq];exact o3
      clear hv o3
      go_wp2_with fail
      go_meet
      exact ⟨by rw [HV.out],rfl⟩
     ·have hv:lab2=lab:=by rw [<-HL2.out,if_neg o3]
      have HV:=Jh hv
      have b3:(t.op==3)=false:=by rw [beq_eq_false_iff_ne];exact o3
      clear hv o3
      go_wp2_with fail
      go_meet
      exact ⟨by rw [HV.out],rfl⟩
    case rest =>
     obtain ⟨rfl,rfl⟩:=hcut
     clear q0
     go_wp2_with fail
     clear q5
     have HBE:=Jh hB
     have hsE:=hsw
     clear hB hsw hle1
     obtain ⟨wE,rfl⟩:∃ x,x=wr:=⟨_,rfl⟩
     obtain ⟨aE,capE,rfl,-⟩:=HROWE.out.open
     go_loopw [14,16,84] (fun u _ i wr=>∃ (k:Nat) (v:Value),v=u/\k<=t.l.length/\i=.int .i64 k/\RowIs VT 39 6 wE.heap.size v (szTL ls ck lab2 re.2 (t.l.take k)).1 wr/\Blk wr B #[.slice a' ls.length cap',.int .i64 (szTL ls ck lab2 re.2 (t.l.take k)).2] 95
      /\ Blk wr w.heap.size (t.cells (.slice ae t.e.length cape) (.slice at' t.l.length capt)).toArray 39/\Blk wr (w.heap.size+1) zeroT.toArray 39/\Ext wb wr/\w.grownBy wr (some B)/\Since w0.heap.size wE wr) (fun _ _ i _=>t.l.length-(intOf i).toNat)
     case atStart=>exact ⟨0,_,rfl,Nat.zero_le _,rfl,RowIs.nil,RB.out,R1.out,R2.out,HBE.out,HG.out,Since.refl _ _⟩
     case round =>
      obtain ⟨k,v,rfl,hk,rfl,hrow,r0,r1,r2,hB,hG,hsi⟩:=hrel
      have HROW:=Jh hrow
      have R0:=Jh r0
      have R1':=Jh r1
      have R2':=Jh r2
      have HG':=Jh hG
      have HSI:=Jh hsi
      have hsi1:=hsi.1
      clear hrow r0 r1 r2 hG hsi RB R1 R2 HG HBE
      by_cases hlt:k<t.l.length
      ·obtain ⟨cs,hf1,hn6,hf2⟩:=VT.get HTR.out hlt
       obtain rfl:=HTA.out (by omega)
       have hmem:t.l[k]∈t.l:=List.getElem_mem hlt
       have hle:=le_sumBy nodesT t.l _ hmem
       have hat:=szTL_take ls ck lab2 re.2 t.l k hlt
       have HXX:=Jh (ext_alloc wr (.cells cs.toArray 39))
       have HBX:=Jh (Has.alloc wr cs 39)
       have HC:=Jh (IH.out _ hmem ck lab2 B _ _ cs _ wb (R0.out.ext HXX.out) (hB.trans HXX.out) hBb HS.out hf2 (HWK.out.2.2.2.2.2 _ hmem) (HOKL.out _ hmem) (by omega))
       have HVE:=Jh hf2
       have HF1:=Jh (hf1.ext hB)
       clear hf1 hf2
       generalize t.l[k]=ek at *
       have HAT:=Jh hat
       clear hat
       obtain ⟨q,hq⟩:∃ q,szT ls ck ek lab2 (szTL ls ck lab2 re.2 (t.l.take k)).2=q:=⟨_,rfl⟩
       rw [hq] at HAT HC
       clear hq
       have hwrx:wr.heap.size<(wr.alloc (.cells cs.toArray 39)).heap.size:=by simp
       have hlen:(szTL ls ck lab2 re.2 (t.l.take k)).1.length=k:=by rw [szTL_length,List.length_take];omega
       have HLN:=Jh hlen
       clear hlen
       obtain ⟨rr,hrr⟩:∃ rr,(szTL ls ck lab2 re.2 (t.l.take k)).1=rr:=⟨_,rfl⟩
       rw [hrr] at HROW HAT HLN
       clear hrr
       go_upto_region 24 with (first | ((with_reducible show Jl 39);refine Jm 39 (HF1.out) agg_T hn6 ?_) | ((with_reducible show Js 39);refine wpList_store_new rfl 39 _ _ rfl rfl (by first | rfl | simp) rfl agg_T (hn6) rfl (HVE.out.one) ?_))
       generalize wr.alloc _=w2 at *
       go_wp2_with (first | ((with_reducible show Jl 39);refine Jm 39 (HBX.out) agg_T hn6 ?_) | (go_at_call 45;refine HC.out.mono ?_;rintro r w3 ⟨cs3,rfl,hb3,hg3,hfv3⟩;have HFV3:=Jh hfv3;clear hfv3) | ((with_reducible show Jw (Op.buildSlice _ _ _));refine wpList_bs1 rfl _ _ rfl appT rfl (cs:=cs3) rfl HFV3.out.len (by decide) ?_) | ((with_reducible show Jw (Op.call { callee:=.builtin .append,args:=_,argTypes:=_ }));refine wpList_app1 (V:=VT) rfl _ _ _ rfl appT rfl (((HROW.out.since (Since.of_ext HXX.out)).since (Since.of_grown hg3 (by omega))).since (Since.of_ext (ext_alloc w3 (.cells cs3.toArray 39)))) rfl HFV3.out.len (Has.alloc w3 cs3 39) HFV3.out.one ((HFV3.out.ext (ext_alloc w3 (.cells cs3.toArray 39))).st (N:=wE.heap.size) (by omega) (fun k hk=>by have:=(HROW.out.lt k hk).2;omega)) (by rw [HLN.out];omega) (by have:=hg3.size;simp;omega) ?_;rw [HLN.out];intro g4 cap4 w4 hrow4 hg4))
       have hx3:=ext_alloc w3 (.cells cs3.toArray 39)
       have hR:∀ j,v.ownBlock=some j->wE.heap.size<=j:=fun j hj=>(HROW.out.lt j hj).1
       have hgr:=gb_grownO (gb_trans (gb_trans (gb_trans HG'.out (gb_ext HXX.out B)) hg3) (gb_ext hx3 B)) hg4 (fun j hj=>by have:=hR j hj;omega)
       have hbw:=(((hB.trans HXX.out).grown hg3 hBb).trans hx3).grownO hg4 (fun j hj=>by have:=hR j hj;omega)
       have hrb:=(hb3.ext hx3).grownO hg4 (fun j hj=>by have:=hR j hj;omega)
       have hr1:=((((R1'.out.ext HXX.out).grown hg3 (by omega)).ext hx3).grownO hg4 (fun j hj=>by have:=hR j hj;omega))
       have hr2:=((((R2'.out.ext HXX.out).grown hg3 (by omega)).ext hx3).grownO hg4 (fun j hj=>by have:=hR j hj;omega))
       have hs4:Since w0.heap.size wE w4:=⟨by have h2:=HXX.out.size;have h3:=hg3.size;have h4:=hx3.size;have h5:=hg4.size;omega,fun b h1 h2=>by
        have h3:=HXX.out.size
        have h4:=hg3.size
        have h5:=hx3.size
        exact (hg4.block b (by omega) (by intro e;have:=hR b e.symm;omega)).trans ((hx3.block b (by omega)).trans ((hg3.block b (by omega) (by intro e;injection e;omega)).trans ((HXX.out.block b (by omega)).trans (HSI.out.2 b h1 h2))))⟩
       go_roundw
       case rel=>exact ⟨k+1,_,rfl,by omega,by go_num,by rw [HAT.out];exact hrow4,by rw [HAT.out];exact hrb,hr1,hr2,hbw,hgr,hs4⟩
       case measure=>simp [intOf];omega
      ·obtain rfl:k=t.l.length:=by omega
       have hrow:=HROW.out
       have hr0:=R0.out
       rw [List.take_length] at hrow hr0
       obtain ⟨rq,hrq⟩:∃ x,szTL ls ck lab2 re.2 t.l=x:=⟨_,rfl⟩
       have hm:=HM4.out
       rw [hrq] at hrow hr0 hm
       have HM5:=Jh hm
       have HROWQ:=Jh hrow
       have RB:=Jh hr0
       clear hm hrow hr0 hrq HROW R0 HM4 hle2
       obtain ⟨aQ,capQ,rfl,-⟩:=HROWQ.out.open
       have hfr:=R1'.out.frozen
       have z4:=R1'.out.has 4 _ rfl
       have z5:=R1'.out.has 5 _ rfl
       have r4:=hfr 4
       have r5:=hfr 5
       clear hfr
       go_upto_region 27 with fail
       have hb1:=(R1'.out.set 4 (.slice aE re.1.length capE)).set 5 (.slice aQ rq.1.length capQ)
       have hb2:Blk _ w.heap.size (T.cells ⟨t.op,t.sig,t.hi,t.lo,re.1,rq.1⟩ (.slice aE re.1.length capE) (.slice aQ rq.1.length capQ)).toArray 39:=hb1
       have hg1:=gb_trans (gb_set wr w.heap.size 4 (.slice aE re.1.length capE)) (gb_set _ w.heap.size 5 (.slice aQ rq.1.length capQ))
       have hk1:=R2'.out.grown hg1 (by omega)
       have hrb:=RB.out.grown hg1 (by omega)
       have hgr:=gb_grownO HG'.out hg1 (fun j hj=>by injection hj;omega)
       have HSI2:=Jh (HSI.out.trans (Since.of_grown hg1 (by omega)))
       have HSQ:=Jh (Since.of_grown (N:=wE.heap.size) hg1 (by omega))
       clear hb1 z4 z5 r4 r5 hg1
       generalize (wr.setCell _ _).setCell _ _=wy at *
       go_wp2_with (first | ((with_reducible show Jl 39);refine Jm 39 (hb2.has) agg_T rfl ?_) | ((with_reducible show Js 39);refine wpList_store_blk rfl 39 _ _ rfl hk1 rfl (cs:=T.cells ⟨t.op,t.sig,t.hi,t.lo,re.1,rq.1⟩ (.slice aE re.1.length capE) (.slice aQ rq.1.length capQ)) rfl agg_T rfl rfl rfl ?_;intro w7 hb5 hg5))
       refine post_ret_blk rfl rfl hb5.has agg_T rfl rfl ⟨_,rfl,?_,gb_grownO hgr hg5 (fun j hj=>by injection hj;omega),?_⟩
       ·rw [HM5.out];exact hrb.grown hg5 (by omega)
       ·rw [HM5.out]
        intro W hW
        refine ⟨_,_,rfl,?_,?_⟩
        ·exact HROWE.out.sl (V:=VE) (At:=EAt) (fun _ _ _ _ _ h hv=>VE.at h hv) ((HSI2.out.trans (Since.of_grown hg5 (by omega))).trans (hW.mono (by omega)))
        ·exact HROWQ.out.sl (V:=VT) (At:=TAt) (fun _ _ _ _ _ h hv=>VT.at h hv) ((HSQ.out.trans (Since.of_grown hg5 (by omega))).trans (hW.mono (by omega)))
theorem statement_calls (ls:List Signal) (t:T):StmtSaid ls t:=T.ind (P:=StmtSaid ls) (fun t ih=>statement_step ls t ih) t
end Go.Proofs.YtpngepnfinbaoaaGreat
