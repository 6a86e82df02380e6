/- Laws and walks that a claim of this seat leans on: Bitv6, EvL, FoldL, BitsL, Us, BsN, Bitv5, UpB, Bitv4. -/
import Derived.Test.YtbliplladmamoaaGreatS15
import Derived.Test.YtbliplladmamoaaGreatS14
import Derived.Test.YtbliplladmamoaaGreatS01
import Derived.Test.YtbliplladmamoaaGreatS03
import Derived.Test.YtbliplladmamoaaGreatS06
import Derived.Test.YtbliplladmamoaaGreatSStmtS
import Derived.Test.YtbliplladmamoaaGreatS00
set_option maxRecDepth 100000
set_option maxHeartbeats 8000000
set_option linter.all false
namespace Go.Proofs.YtbliplladmamoaaGreat
open Go.RowKit
def catP (l:List Bt):List (Int × Nat):=l.map fun b=>(b.w,b.v)
def catW (l:List Bt):Int:=(l.map (·.w)).sum
theorem Abp (l:List (Int × Nat)) (p:Int × Nat):∀ j,catM (l++[p]) j=catM l j*2^p.1.toNat+p.2:=by
 induction l with
 | nil=>intro j;rfl
 | cons q l ih=>intro j;exact ih _
theorem Oz (l:List Bt) (h:∀ x∈l,x.ok):0<=catW l/\catM (catP l) 0<2^(catW l).toNat:=by
 have hs:0<=catW l/\(catW l).toNat=((catP l).map fun p=>p.1.toNat).sum:=by
  unfold catW catP
  induction l with
  | nil=>simp
  | cons x l ih =>
   have:=(h x (by simp)).1
   obtain ⟨h1,h2⟩:=ih fun y hy=>h y (by simp [hy])
   simp only [List.map_cons,List.sum_cons]
   simp only [List.map_map] at h2 ⊢
   omega
 refine ⟨hs.1,?_⟩
 have:=Af4 (catP l) 0 0 (by decide) (by
  intro p hp
  obtain ⟨x,hx,rfl⟩:=List.mem_map.1 hp
  exact (h x hx).2.2)
 rw [hs.2];simpa using this
theorem Ait {a b:Nat} (ha:a<2^64) (hb:b<2^64):bits .or .u64 (a:Int) (b:Int)=((a ||| b:Nat):Int) :=
 (bits_nat .u64 64 (by decide) (fun n h0 h1=>by rw [IntKind.wrap_u64];omega) a b ha hb).2
theorem Xz {u j bw bv:Nat} (h1:u<2^j) (h2:bv<2^bw) (h3:j+bw<=64) :
  IntKind.u64.wrap ((u:Int)*2^bw)=((u*2^bw:Nat):Int)/\bits .or .u64 ((u*2^bw:Nat):Int) (bv:Int)=((u*2^bw+bv:Nat):Int):=by
 have h4:u*2^bw+bv<2^(j+bw):=by
  rw [Nat.pow_add]
  have:(u+1)*2^bw<=2^j*2^bw:=Nat.mul_le_mul_right _ h1
  rw [Nat.add_mul] at this
  omega
 have h5:2^(j+bw)<=18446744073709551616:=Nat.pow_le_pow_right (n:=2) (by decide) h3
 constructor
 ·rw [IntKind.wrap_u64,show ((u:Int)*2^bw)=((u*2^bw:Nat):Int) by norm_cast]
  omega
 ·rw [Ait (by omega) (by omega)]
  congr 1
  rw [Nat.mul_comm,<-Nat.two_pow_add_eq_or_of_lt h2]
theorem Qx (l:List Bt) (h:∀ x∈l,x.ok) (k:Nat) (hk:k<l.length):catW (l.take (k+1))=catW (l.take k)+l[k].w/\catM (catP (l.take (k+1))) 0=catM (catP (l.take k)) 0*2^l[k].w.toNat+l[k].v/\catW (l.take (k+1))<=catW l:=by
 have e:l.take (k+1)=l.take k++[l[k]]:=by rw [List.take_succ,List.getElem?_eq_getElem hk];rfl
 refine ⟨by unfold catW;rw [e,List.map_append,List.sum_append,List.map_cons,List.map_nil,List.sum_cons,List.sum_nil,Int.add_zero],?_,?_⟩
 ·rw [e,catP,List.map_append,List.map_cons,List.map_nil,Abp];rfl
 ·have h1:catW l=catW (l.take (k+1))+catW (l.drop (k+1)):=by
   unfold catW
   rw [<-List.sum_append,<-List.map_append,List.take_append_drop]
  have h2:=(Oz (l.drop (k+1)) (fun x hx=>h x (List.mem_of_mem_drop hx))).1
  omega
theorem Abi (l:List Bt) (ai:∀ x∈l,x.ok) (an:l≠[]) (hw:catW l<=64) (s:Value) (w:World) (h:Bts w s l) :
  Calls Tryz.prog 169 #[s] w (Gk w ⟨catW l,catM (catP l) 0⟩):=by
 have HX:=Ab w (.cells #[.int .i64 0,.int .u64 0] 151)
 have hR:=Blk.new w #[.int .i64 0,.int .u64 0] 151
 have ao:=Jh (fun (W:World) (h:Bts W s l)=>Ox l ai s W h)
 have ac:=Jh ai
 have HW:=Jh hw
 have HB:=Jh h
 have a1:0<l.length:=List.length_pos_iff.2 an
 obtain ⟨a,b,o,cap,hs,a6,a7,ha,hr⟩:=h.open
 subst hs
 clear ai hw an h
 have b1:((l.length:Int)==0)=false:=by rw [beq_eq_false_iff_ne];omega
 go_enter Tryz.func169,Tryz.ntmps169
 go_upto_region 1 with fail
 generalize w.alloc _=w0 at *
 obtain rfl:=ha a1
 clear ha
 go_wp2_with (first | (go_at_call 191;refine (ao.out _ (HB.out.ext HX)).mono ?_;rintro r w1 ⟨rfl,aj⟩))
 have av:=hR.ext aj
 go_loopw [5,17] (fun _ i wr=>∃ k:Nat,k<=l.length/\i=.int .i64 k/\Ext w wr/\Blk wr w.heap.size (Bt.cells ⟨catW (l.take k),catM (catP (l.take k)) 0⟩).toArray 151) (fun _ i _=>l.length-(intOf i).toNat)
 case atStart=>exact ⟨0,Nat.zero_le _,rfl,HX.trans aj,av⟩
 case round =>
  obtain ⟨k,hk,rfl,hB,u⟩:=hrel
  by_cases ag:k<l.length
  ·have he:=(Bts.get hr ag).ext hB
   obtain ⟨t1,t2,t3⟩:=Qx l ac.out k ag
   have j:=ac.out _ (List.getElem_mem ag)
   obtain ⟨z1,z2⟩:=Oz (l.take k) (fun x hx=>ac.out x (List.mem_of_mem_take hx))
   have a5:=HW.out
   generalize l[k]=x at *
   rw [t1] at t3
   obtain ⟨e1,e2⟩:=Xz z2 j.2.2 (by have:=j.1;omega)
   have a9:=Bt.lt64 j
   have aj:=j.1
   have a8:=j.2.1
   have T1:=Jh t1
   have T2:=Jh t2
   have E1:=Jh e1
   have E2:=Jh e2
   generalize catW (l.take k)=s0 at *
   generalize catM (catP (l.take k)) 0=a0 at *
   generalize a0*2^x.w.toNat=m0 at *
   clear t1 t2 z2 e1 e2 j
   obtain ⟨xw,xv⟩:=x
   simp only at *
   have hex:=Ab wr (.cells (Bt.cells ⟨xw,xv⟩).toArray 151)
   have ae:=Blk.new wr (Bt.cells ⟨xw,xv⟩).toArray 151
   have ab:=u.ext hex
   have a3:=u.lt
   go_upto_region 6 with (first | ((with_reducible show Jl 151);refine Aa rfl 151 _ rfl rfl (he) Ae rfl ?_) | ((with_reducible show Js 151);refine Ad rfl 151 _ _ rfl rfl (by first | rfl | simp) rfl Ae (rfl) rfl (rfl) ?_))
   generalize wr.alloc _=w2 at *
   have ap:=Jh ae
   have aq:=Jh hex
   have g0:=ab.has 0 _ rfl
   have r0:=ab.frozen 0
   have g1:=ae.has 0 _ rfl
   clear ae hex
   go_upto_region 7 with fail
   have al:=ab.set 0 (.int .i64 (s0+xw))
   have af:=Ay w2 w.heap.size 0 (.int .i64 (s0+xw))
   have ak:=ap.out.grown af (by omega)
   have ar:=Jh ((hB.trans aq.out).grown af (Nat.le_refl _))
   clear af g0 r0 g1 ab
   generalize w2.setCell _ _=w3 at *
   have aa:Blk w3 w.heap.size (Bt.cells ⟨s0+xw,a0⟩).toArray 151:=al
   clear al
   have g0:=aa.has 0 _ rfl
   have a2:s0+xw<=64:=by omega
   have a4:decide (64<s0+xw)=false:=by simpa using a2
   go_wp2_with fail
   refine wp_region_held_drew (S:=fun W=>Blk W wr.heap.size (Bt.cells ⟨xw,xv⟩).toArray 151) (by kernel_rfl) ak.drew (fun hH=>?_)
   try simp only [J]
   (refine Ji 0 _ rfl hH ?_;try simp only [J])
   (refine Ji 2 _ rfl hH ?_;try simp only [J])
   (refine Jt 3 (.int .i64 xw) rfl (yif_load1 rfl (by intro W hW;have y:=hW.has 0 _ rfl;clear hW;go_simp)) hH ?_;try simp only [J])
   (refine Ji 5 _ rfl hH ?_;try simp only [J])
   (refine Jt 6 (.int .u64 (xv:Int)) rfl (yif_load1 rfl (by intro W hW;have y:=hW.has 1 _ rfl;clear hW;go_simp)) hH ?_;try simp only [J])
   (refine Jr 1 rfl fun K hK=>?_)
   have z1:=aa.drew.has 1 _ rfl
   have y1:=aa.drew.frozen 1
   go_simp
   refine hK.out _ _ hH (fun hH=>?_)
   clear hK K
   try simp only [J]
   (refine Jt 4 (.int .u64 (m0:Int)) rfl (yif_load1 rfl (by intro W hW;clear hW;go_simp;exact E1.out)) hH ?_;try simp only [J])
   (refine Jt 7 (.int .u64 ((m0+xv:Nat):Int)) rfl (yif_load1 rfl (by intro W hW;clear hW;go_simp;exact E2.out)) hH ?_;try simp only [J])
   (refine Ji 8 _ rfl hH ?_;try simp only [J])
   (refine Jr 9 rfl fun K hK=>?_)
   go_simp
   have ax:=(aa.set 1 (.int .u64 ((m0:Int)+(xv:Int)))).drew
   have am:=Hm (Ay w3 w.heap.size 1 (.int .u64 ((m0:Int)+(xv:Int))))
   have au:=ak.grown am (by omega)
   have ay:=ar.out.grown am (Nat.le_refl _)
   refine hK.out _ _ au (fun hH=>?_)
   clear hK K
   refine Jz ?_
   generalize (w3.setCell _ _).drew=w5 at *
   clear z1 y1
   go_wp2_with fail
   go_roundw
   case rel=>exact ⟨k+1,by omega,by go_num,ay,by rw [T1.out,T2.out];exact ax⟩
   case measure=>simp [intOf];omega
  ·obtain rfl:k=l.length:=by omega
   rw [List.take_length] at u
   have aw:=u.has
   go_wp2_with (first | ((with_reducible show Jl 151);refine Aa rfl 151 _ rfl rfl (aw) Ae rfl ?_) | ((with_reducible show Js 151);refine Ac rfl 151 _ _ rfl (u) rfl (cs:=Bt.cells ⟨catW l,catM (catP l) 0⟩) (rfl) Ae (rfl) rfl (rfl) ?_;intro w4 az ah))
   refine Am rfl rfl rfl az.has Ae rfl rfl ⟨rfl,hB.grown ah (by omega)⟩
def Nc (ls:List Ai) (vs:List Nat):Prop:=∀ sig:Int,0<=sig->sig<ls.length->vs.getD sig.toNat 0<2^(Dn ls sig).toNat
theorem Ad6 {w v:Int} (h0:0<=v) (h1:v<18446744073709551616) (hw:0<=w):holds w v=true↔v.toNat<2^w.toNat:=by
 obtain ⟨x,rfl⟩:=Int.eq_ofNat_of_zero_le h0
 obtain ⟨k,rfl⟩:=Int.eq_ofNat_of_zero_le hw
 have hx:x<2^64:=by omega
 unfold holds
 rw [decide_eq_true_eq]
 simp only [Int.toNat_natCast]
 by_cases hz:x=0
 ·subst hz
  simp [Lib.bitLen,Lib.bitLenAux_zero,Nat.two_pow_pos]
 ·obtain ⟨g1,g2,g3⟩:=Lib.bitLenAux_bounds 64 x hx hz
  change 1<=Lib.bitLen x at g1
  change 2^(Lib.bitLen x-1)<=x at g2
  change x<2^Lib.bitLen x at g3
  constructor
  ·intro h
   exact Nat.lt_of_lt_of_le g3 (Nat.pow_le_pow_right (by decide) (by omega))
  ·intro h
   by_cases hc:Lib.bitLen x<=k
   ·omega
   ·have:=Nat.pow_le_pow_right (n:=2) (by decide) (show k<=Lib.bitLen x-1 by omega)
    omega
def evB (vs:List Nat) (e:E):Bt:=⟨e.w,evM vs e⟩
theorem V8 (vs:List Nat) (l:List E):(l.map (·.w)).zip (l.map (evM vs))=catP (l.map (evB vs)):=by
 rw [List.zip_map']
 unfold catP
 rw [List.map_map];rfl
theorem Lq (vs:List Nat) (l:List E):catW (l.map (evB vs))=(l.map (·.w)).sum:=by
 unfold catW;rw [List.map_map];rfl
theorem Aa7 {ls:List Ai} (ae:∀ x∈ls,x.w<=64) {vs:List Nat} (e:E):WS ls e->e.wf->evM vs e<2^e.w.toNat:=by
 induction e using E.ind with
 | h e ih =>
  intro h ab
  obtain ⟨h0,hp⟩:=(Hv ls e).1 h
  have ac:=((E.wf_iff e).1 ab).2.2.2.2.2.2.2
  have hv:=((E.wf_iff e).1 ab).2.2.1
  have u:=fun x hx=>ih x hx (hp x hx) (ac x hx)
  have aa:=fun x hx=>I0 ae x (hp x hx)
  rw [Z2]
  clear ih hp h ac ab
  obtain ⟨op,w,v,sig,hi,lo,n,l⟩:=e
  simp only at h0 u aa hv ⊢
  unfold Gn
  rcases h0 with ⟨rfl,-,h1,h2,h3,-⟩ | ⟨rfl,-,h1,h2,-⟩ | ⟨rfl,⟨k,hk⟩,-,-,rfl,-⟩ | ⟨rfl,⟨k,hk,h1⟩,-⟩ | ⟨rfl,⟨j,k,hk,h1⟩,-⟩ | ⟨rfl,hk,-⟩ | ⟨rfl,h1,h2,h3,-⟩ | ⟨rfl,⟨k,hk,h1⟩,h2,h3,-⟩
  ·simp only [if_pos]
   exact (Ad6 hv.1 (by have:=hv.2;omega) (by omega)).1 h3
  ·simp
   rw [h2];exact Nat.mod_lt _ (Nat.two_pow_pos _)
  ·simp;omega
  ·obtain ⟨x,rfl,rfl⟩:=P8 hk
   have hx:=u x (by simp)
   have ox:=aa x (by simp)
   have af:=Ahn (op:=n) hx (by omega)
   simp
   rcases h1 with ⟨a1,a2,a3⟩ | ⟨a1,a2,a3⟩ | ⟨a1,a2,a3⟩
   ·rw [<-a3];exact af
   ·have:n=3\/n=4\/n=5:=by omega
    subst a3
    rcases this with rfl | rfl | rfl
    ·simpa [unM] using Ko _
    ·have:=Ko (decide (evM vs x≠0));simpa [unM] using this
    ·simp [unM];omega
   ·subst a1;subst a2
    simpa [unM] using Ko _
  ·obtain ⟨x,y,rfl,rfl,rfl⟩:=Aca hk
   have hx:=u x (by simp)
   have hy:=u y (by simp)
   have ox:=aa x (by simp)
   simp
   rcases h1 with ⟨a1,a2,a3,a4⟩ | ⟨a1,a2,a3⟩ | ⟨a1,a2,a3,a4⟩ | ⟨a1,a2,a3,a4,a5⟩
   ·rw [<-a3];exact U6 hx (fun _ _=>by rw [a3,<-a4];exact hy) (by omega)
   ·rw [<-a3];exact U6 hx (fun h1 h2=>by omega) (by omega)
   ·have hq:n=19\/n=20\/n=21\/n=22\/n=23\/n=24:=by omega
    subst a3
    rcases hq with rfl | rfl | rfl | rfl | rfl | rfl<;>simp [D4]<;>exact Ko _
   ·subst a3
    have:=U6 (op:=n) hx (fun _ _=>by rw [a4,<-a5];exact hy) (by omega)
    rw [a4] at this ⊢
    exact this
  ·obtain ⟨c,x,y,rfl,hc,hx,hy⟩:=Aeo hk
   have ix:=u x (by simp)
   have iy:=u y (by simp)
   simp
   split
   ·rw [<-hx];exact ix
   ·rw [<-hy];exact iy
  ·simp
   rw [V8,h2,<-Lq vs]
   exact (Oz _ (by
    intro b hb
    obtain ⟨x,hx,rfl⟩:=List.mem_map.1 hb
    exact ⟨(aa x hx).2.1,(aa x hx).2.2,u x hx⟩)).2
  ·obtain ⟨x,rfl,rfl⟩:=P8 hk
   have hx:=u x (by simp)
   have ox:=aa x (by simp)
   simp
   exact Age hx (by omega) (by omega)
theorem Adw {ls:List Ai} (j:∀ x∈ls,x.w<=64) {vs:List Nat} {e:E} (h:WS ls e) (u:e.wf):(evB vs e).ok:=⟨(I0 j e h).2.1,(I0 j e h).2.2,Aa7 j e h u⟩
def E.with (e:E) (l:List E):E:=⟨e.op,e.w,e.v,e.sig,e.hi,e.lo,e.n,l⟩
def Ad8 (e:E):Bool:=decide (e.op=1)
def hdE (l:List E):E:=l.headD zE
def Ah5 (ls:List Ai) (e:E) (l:List E):E :=
 if l.length=0 then e
 else if e.op=3/\Ad8 (hdE l)=true/\(hdE l).v<Dn ls e.sig then ⟨2,1,0,e.sig,(hdE l).v,(hdE l).v,0,[]⟩
 else if e.op=6/\Ad8 (hdE l)=true then l.getD (2-(hdE l).v).toNat zE
 else if l.all Ad8=false then e.with l
 else ⟨1,e.w,evM [] (e.with l),0,0,0,0,[]⟩
def Ah4 (ls:List Ai):E->E
 | ⟨op,w,v,sig,hi,lo,n,l⟩=>Ah5 ls ⟨op,w,v,sig,hi,lo,n,l⟩ (all l)
where all:List E->List E
 | []=>[]
 | e::l=>Ah4 ls e::all l
def Ag3 (ls:List Ai) (e:E):List Int:=Dt (D0 ls ls.length) (Cg ls e)
def lo0 (e:E):Int:=if e.op=2 then e.lo else 0
def hi0 (ls:List Ai) (e:E):Int:=if e.op=2 then e.hi else if e.op=3 then Dn ls e.sig-1 else -1
def Ai6 (ls:List Ai) (e:E) (k:Nat):List Int:=(List.range k).map fun (j:Nat)=>lo0 e+H8 ls e.sig.toNat+(j:Int)
def Ai3 (ls:List Ai) (e:E):Nat:=(hi0 ls e-lo0 e+1).toNat
def Ahy (fr:Nat->(Nat->Value)->List Deferred->Act) (I:Nat->List Deferred->World->Prop):Act->World->Prop:=fun a w=>∃ k f ds,a=fr k f ds/\I k ds w
theorem Ahy.intro {fr:Nat->(Nat->Value)->List Deferred->Act} {I:Nat->List Deferred->World->Prop} {a:Act} {w:World} (k:Nat) (h:a=fr k (fun i=>a.tmps.getD i undef) a.defers) (hI:I k a.defers w):Ahy fr I a w:=⟨k,_,_,h,hI⟩
abbrev UAt (w:World) (x:Nat) (b o:Nat):Prop:=Has w b o [.int .u64 (x:Int)]
abbrev Us (w:World) (s:Value) (l:List Nat):Prop:=Sl 1 (UAt w) s l
theorem Us.ext {w w':World} {s:Value} {l:List Nat} (h:Us w s l) (hx:Ext w w'):Us w' s l:=h.mono fun _ _ _ _ h=>Has.ext h hx
theorem Us.get {w:World} {l:List Nat} {b o k:Nat} (h:Rows 1 (UAt w) l b o) (hk:k<l.length):w.cell? ⟨b,o+k,none⟩=some (.int .u64 (l[k]:Nat)):=by
 have:=h.get (List.getElem?_eq_getElem hk) 0 _ rfl
 rw [Nat.mul_one] at this
 exact this
def Zc (l:List Nat):Prop:=∀ x∈l,x<18446744073709551616
theorem Aa4 {P:Program} {w:World} {t:TypeId} {e:TypeId} {size bytes:Nat} (hT:H7 P t e size bytes) (vs:List Value) (css:List (List Value)) (h:vs.map (·.cells)=css.map List.toArray) (hl:∀ cs∈css,cs.length=size) (h0:0<vs.length) (hn:vs.length*size<=16777216) :
  (Instr.buildSlice t vs.length ((vs.zipIdx 0).map fun x=>(x.2,x.1)).toArray).run P w=.ok (.slice (some ⟨w.heap.size,0,none⟩) vs.length vs.length) (w.alloc (.cells css.flatten.toArray e)):=by
 obtain ⟨ht,j,ab,af⟩:=hT
 cases hi:P.info? e with
 | none=>simp [hi] at j
 | some i =>
  simp only [hi,Option.map_some,Option.some.injEq,Prod.mk.injEq] at j
  obtain ⟨ae,aa,hb⟩:=j
  cases hz:i.zero with
  | none=>simp [hz] at ae
  | some z =>
   have ac:∀ v∈vs,v.cells.size=size:=by
    intro v hv
    have:v.cells∈css.map List.toArray:=by rw [<-h];exact List.mem_map_of_mem hv
    obtain ⟨cs,hc,he⟩:=List.mem_map.1 this
    rw [<-he];simp [hl cs hc]
   have hf:=Great.fill_whole (s:=size) ab vs ((Array.range (vs.length*size)).map (z.cells[·%z.cells.size]!)) ac (by simp)
   have u:(vs.flatMap fun v=>v.cells.toList)=css.flatten:=by
    rw [List.flatMap_def]
    have:vs.map (fun v=>v.cells.toList)=css:=by
     have:=congrArg (List.map Array.toList) h
     simpa [List.map_map,Function.comp_def] using this
    rw [this]
   rw [u] at hf
   refine run_buildSlice (P:=P) w t e vs.length _ css.flatten.toArray i z ht hi hz (by rw [aa];omega) (by rw [aa];have:=Nat.mul_pos h0 ab;omega) ?_
   rw [aa];exact hf
theorem Dq {P:Program} {j:Array Oper} {rest:List Oper} {o:Oper} {a:Act} {w:World} {Q:Exit->Act->World->Prop} (hw:Region.wanted o (yielded j a.tmps)=true) (t:TypeId) (n:Nat) (ps:Array (Nat × Operand))
  (ho:o.op=.buildSlice t n ps) {e:TypeId} {size bytes:Nat} (hT:H7 P t e size bytes) {vs:List Value} (hx:ps.toList.map (fun p=>(p.1,a.eval p.2))=(vs.zipIdx 0).map fun x=>(x.2,x.1)) (u:vs.length=n) {css:List (List Value)} (hv:vs.map (·.cells)=css.map List.toArray)
  (hl:∀ cs∈css,cs.length=size) (h0:0<n) (hn:n*size<=16777216)
  (h:wpList P j Q rest (a.put o.dst (.slice (some ⟨w.heap.size,0,none⟩) n n)) (w.alloc (.cells css.flatten.toArray e))):wpList P j Q (o::rest) a w :=
 BigFrame.wpList_want hw fun _ hK=>by
  subst u
  have hr:=Aa4 (w:=w) hT vs css hv hl h0 hn
  unfold Oper.wp execOp
  simp only [ho]
  have aa:(ps.map fun p=>(p.1,a.eval p.2))=((vs.zipIdx 0).map fun x=>(x.2,x.1)).toArray:=by
   apply Array.ext'
   rw [Array.toList_map,hx]
  rw [aa]
  simp only [Sem.run_bind,hr,Result.andThen_ok,Sem.run_pure]
  exact hK _ _ h
theorem Rx {P:Program} {j:Array Oper} {o:Oper} {a:Act} {w:World} {K:Act->World->Prop} {Q:Exit->Act->World->Prop} {E:Prop} (hw:Region.wanted o (yielded j a.tmps)=true) (t:TypeId) (n:Nat) (ps:Array (Nat × Operand))
  (ho:o.op=.buildSlice t n ps) {e:TypeId} {size bytes:Nat} (hT:H7 P t e size bytes) {vs:List Value} (hx:ps.toList.map (fun p=>(p.1,a.eval p.2))=(vs.zipIdx 0).map fun x=>(x.2,x.1)) (u:vs.length=n) {css:List (List Value)} (hv:vs.map (·.cells)=css.map List.toArray)
  (hl:∀ cs∈css,cs.length=size) (h0:0<n) (hn:n*size<=16777216)
  (h:K (a.put o.dst (.slice (some ⟨w.heap.size,0,none⟩) n n)) (w.alloc (.cells css.flatten.toArray e))):if Region.wanted o (yielded j a.tmps)=true then Oper.wp P o a w K Q else E:=by
 rw [if_pos hw]
 subst u
 have hr:=Aa4 (w:=w) hT vs css hv hl h0 hn
 unfold Oper.wp execOp
 simp only [ho]
 have aa:(ps.map fun p=>(p.1,a.eval p.2))=((vs.zipIdx 0).map fun x=>(x.2,x.1)).toArray:=by
  apply Array.ext'
  rw [Array.toList_map,hx]
 rw [aa]
 simp only [Sem.run_bind,hr,Result.andThen_ok,Sem.run_pure]
 exact h
theorem Ic:H7 Tryz.prog 183 151 2 16:=⟨Tryz.underlying183,by kernel_rfl,by decide,by decide⟩
theorem Bts.of_blk {w:World} {B:Nat} (l:List Bt) {T:TypeId} (cap:Nat) (h:Blk w B (l.map Bt.cells).flatten.toArray T) (hc:l.length<=cap) (hm:cap<=maxLen):Bts w (.slice (some ⟨B,0,none⟩) l.length cap) l :=
 ⟨B,0,⟨_,cap,rfl,hc,hm,fun _=>rfl⟩,Di (f:=Bt.cells) (fun _=>rfl) l 0 h.has⟩
theorem Zg (c a b:Bt) (hc:c.ok) (ha:a.ok) (hb:b.ok) (ar:c.w=1) (ao:a.w=b.w) (w:World) :
  Calls Tryz.prog 168 #[.agg c.cells.toArray,.agg a.cells.toArray,.agg b.cells.toArray] w (Gk w ⟨a.w,if c.v=1 then a.v else b.v⟩):=by
 have x1:=Ab w (.cells c.cells.toArray 151)
 have x2:=Ab (w.alloc (.cells c.cells.toArray 151)) (.cells a.cells.toArray 151)
 have x3:=Ab ((w.alloc (.cells c.cells.toArray 151)).alloc (.cells a.cells.toArray 151)) (.cells b.cells.toArray 151)
 have x4:=Ab (((w.alloc (.cells c.cells.toArray 151)).alloc (.cells a.cells.toArray 151)).alloc (.cells b.cells.toArray 151)) (.cells #[.int .i64 0,.int .u64 0] 151)
 have hC:=(((Blk.new w c.cells.toArray 151).ext x2).ext x3).ext x4
 have hA:=((Blk.new (w.alloc (.cells c.cells.toArray 151)) a.cells.toArray 151).ext x3).ext x4
 have hB:=(Blk.new ((w.alloc (.cells c.cells.toArray 151)).alloc (.cells a.cells.toArray 151)) b.cells.toArray 151).ext x4
 have hR:=Blk.new (((w.alloc (.cells c.cells.toArray 151)).alloc (.cells a.cells.toArray 151)).alloc (.cells b.cells.toArray 151)) #[.int .i64 0,.int .u64 0] 151
 have HX:=((x1.trans x2).trans x3).trans x4
 simp only [World.size_alloc] at hA hB hR
 clear x1 x2 x3 x4
 have al:=Jh (fun (s:Value) (W:World) (h:Bts W s [c,a,b])=>Ox [c,a,b] (by simp;exact ⟨hc,ha,hb⟩) s W h)
 have aw:=fun (wd:Int) (n:Nat) (hn:n<2^64) (h0:0<=wd) (h1:wd<=64) (w:World)=>Hb wd n hn h0 h1 w
 have an:=Bt.lt64 ha
 have ap:=Bt.lt64 hb
 have a1:=ha.1
 have a2:=ha.2.1
 have a3:=Jh ha.2.2
 have b3:=Jh hb.2.2
 clear hc ha hb
 obtain ⟨cw,cv⟩:=c
 obtain ⟨wd,av⟩:=a
 obtain ⟨bw,bv⟩:=b
 simp only at ar ao an ap a1 a2 a3 b3
 subst ar
 subst ao
 obtain ⟨tv,ag⟩:∃ tv,(if cv=1 then av else bv)=tv:=⟨_,rfl⟩
 have aj:=Jh ag
 rw [ag]
 have a4:tv<2^64:=by rw [<-ag];split<;>assumption
 have a5:=Jh (show tv<2^wd.toNat by rw [<-ag];(split;exact a3.out;exact b3.out))
 clear ag
 go_enter Tryz.func168,Tryz.ntmps168
 go_upto_region 1 with fail
 have a0:((((w.alloc (.cells (Bt.cells ⟨1,cv⟩).toArray 151)).alloc (.cells (Bt.cells ⟨wd,av⟩).toArray 151)).alloc (.cells (Bt.cells ⟨wd,bv⟩).toArray 151)).alloc (.cells #[.int .i64 0,.int .u64 0] 151)).heap.size=w.heap.size+1+1+1+1:=by simp
 generalize (((w.alloc _).alloc _).alloc _).alloc _=w0 at *
 have ay:=hB.has
 have HC:=Jh hC
 have HA:=Jh hA
 have HB:=Jh hB
 have HR:=Jh hR
 clear hC hA hB hR
 go_upto_region 2 with (first | ((with_reducible show Jl 151);refine Aa rfl 151 _ rfl rfl (ay) Ae rfl ?_) | ((with_reducible show Js 151);refine Ad rfl 151 _ _ rfl rfl (by first | rfl | simp) rfl Ae (rfl) rfl (rfl) ?_))
 have j:=Ab w0 (.cells (Bt.cells ⟨wd,bv⟩).toArray 151)
 have ai:=Blk.new w0 (Bt.cells ⟨wd,bv⟩).toArray 151
 generalize w0.alloc _=w5 at *
 rw [a0] at ai
 have g1:=(HC.out.ext j).has 1 _ rfl
 go_upto_if 12 with fail
 go_cut [7] from 12 to 14 (fun u wx=>u=.int .i64 0/\Ext w wx/\Blk wx w.heap.size (Bt.cells ⟨1,cv⟩).toArray 151/\Blk wx (w.heap.size+1) (Bt.cells ⟨wd,av⟩).toArray 151/\Blk wx (w.heap.size+1+1) (Bt.cells ⟨wd,bv⟩).toArray 151/\Blk wx (w.heap.size+1+1+1) #[.int .i64 0,.int .u64 0] 151/\Blk wx (w.heap.size+1+1+1+1) (Bt.cells ⟨wd,tv⟩).toArray 151)
 case first =>
  by_cases h1:cv=1
  ·have b1:((cv:Int)==1)=true:=by rw [beq_iff_eq];omega
   have ht:=aj.out
   rw [if_pos h1] at ht
   subst ht
   clear h1
   have ax:=(HA.out.ext j).has
   go_wp2_with (first | ((with_reducible show Jl 151);refine Aa rfl 151 _ rfl rfl (ax) Ae rfl ?_) | ((with_reducible show Js 151);refine Ac rfl 151 _ _ rfl (ai) rfl (cs:=Bt.cells ⟨wd,av⟩) (rfl) Ae (rfl) rfl (rfl) ?_;intro w4 az ae))
   go_meet
   exact ⟨rfl,(HX.trans j).grown ae (by omega),(HC.out.ext j).grown ae (by omega),(HA.out.ext j).grown ae (by omega),(HB.out.ext j).grown ae (by omega),(HR.out.ext j).grown ae (by omega),az⟩
  ·have b1:((cv:Int)==1)=false:=by rw [beq_eq_false_iff_ne];omega
   have ht:=aj.out
   rw [if_neg h1] at ht
   subst ht
   clear h1
   go_wp2_with fail
   go_meet
   exact ⟨rfl,HX.trans j,HC.out.ext j,HA.out.ext j,HB.out.ext j,HR.out.ext j,ai⟩
 case rest =>
  obtain ⟨rfl,k1,k2,k3,k4,k5,k6⟩:=hcut
  have am:=Jh k5
  clear aj HC HA HB HR j ai g1
  go_upto_region 4 with fail
  refine wp_region_held_drew (S:=fun W=>Ext w W/\Blk W w.heap.size (Bt.cells ⟨1,cv⟩).toArray 151/\Blk W (w.heap.size+1) (Bt.cells ⟨wd,av⟩).toArray 151/\Blk W (w.heap.size+1+1) (Bt.cells ⟨wd,bv⟩).toArray 151/\Blk W (w.heap.size+1+1+1+1) (Bt.cells ⟨wd,tv⟩).toArray 151) (by kernel_rfl) ⟨k1.drew,k2.drew,k3.drew,k4.drew,k6.drew⟩ (fun hH=>?_)
  clear k1 k2 k3 k4 k5 k6
  try simp only [J]
  (refine Jt 0 (.agg (Bt.cells ⟨1,cv⟩).toArray) rfl (Ar rfl 151 _ rfl rfl (fun W hW=>hW.2.1.has) Ae rfl) hH ?_;try simp only [J])
  (refine Jt 1 (.agg (Bt.cells ⟨wd,av⟩).toArray) rfl (Ar rfl 151 _ rfl rfl (fun W hW=>hW.2.2.1.has) Ae rfl) hH ?_;try simp only [J])
  (refine Jt 2 (.agg (Bt.cells ⟨wd,bv⟩).toArray) rfl (Ar rfl 151 _ rfl rfl (fun W hW=>hW.2.2.2.1.has) Ae rfl) hH ?_;try simp only [J])
  (refine Ji 17 _ rfl hH ?_;try simp only [J])
  (refine Jt 18 (.int .i64 wd) rfl (yif_load1 rfl (by intro W hW;have y:=hW.2.2.2.2.has 0 _ rfl;clear hW;go_simp)) hH ?_;try simp only [J])
  (refine Ji 19 _ rfl hH ?_;try simp only [J])
  (refine Jt 20 (.int .u64 (tv:Int)) rfl (yif_load1 rfl (by intro W hW;have y:=hW.2.2.2.2.has 1 _ rfl;clear hW;go_simp)) hH ?_;try simp only [J])
  (refine Jr 3 rfl fun K hK=>?_)
  refine Rx rfl _ 3 _ rfl Ic (vs:=[.agg (Bt.cells ⟨1,cv⟩).toArray,.agg (Bt.cells ⟨wd,av⟩).toArray,.agg (Bt.cells ⟨wd,bv⟩).toArray]) rfl rfl (css:=[Bt.cells ⟨1,cv⟩,Bt.cells ⟨wd,av⟩,Bt.cells ⟨wd,bv⟩]) rfl (by simp) (by decide) (by decide) ?_
  have aa:=Ab wc.drew (.cells ([Bt.cells ⟨1,cv⟩,Bt.cells ⟨wd,av⟩,Bt.cells ⟨wd,bv⟩].flatten.toArray) 151)
  have aq:=Bts.of_blk [⟨1,cv⟩,⟨wd,av⟩,⟨wd,bv⟩] 3 (Blk.new wc.drew ([Bt.cells ⟨1,cv⟩,Bt.cells ⟨wd,av⟩,Bt.cells ⟨wd,bv⟩].flatten.toArray) 151) (by simp) (by decide)
  have ak:=Jh (al.out _ _ aq)
  have au:=Jh (am.out.drew.ext aa)
  refine hK.out _ _ ⟨hH.1.trans aa,hH.2.1.ext aa,hH.2.2.1.ext aa,hH.2.2.2.1.ext aa,hH.2.2.2.2.ext aa⟩ (fun hH=>?_)
  clear hK K aq aa al am
  generalize wc.drew.alloc _=w6 at *
  generalize wc.drew.heap.size=B6 at *
  try simp only [J]
  (refine Jr 4 rfl fun K hK=>?_)
  go_simp
  refine ak.out.mono ?_
  rintro r w7 ⟨rfl,ab⟩
  refine hK.out _ _ ⟨hH.1.trans ab,hH.2.1.ext ab,hH.2.2.1.ext ab,hH.2.2.2.1.ext ab,hH.2.2.2.2.ext ab⟩ (fun hH=>?_)
  clear hK K ak
  try simp only [J]
  (refine Ji 5 _ rfl hH ?_;try simp only [J])
  (refine Ji 6 _ rfl hH ?_;try simp only [J])
  (refine Jt 7 (.int .i64 1) rfl (yif_load1 rfl (by intro W hW;have y:=hW.2.1.has 0 _ rfl;clear hW;go_simp)) hH ?_;try simp only [J])
  (refine Jk 8 (.bool true) rfl hH ?_;try simp only [J])
  (refine Jk 9 (.bool true) rfl hH ?_;try simp only [J])
  (refine Ji 10 _ rfl hH ?_;try simp only [J])
  (refine Ji 11 _ rfl hH ?_;try simp only [J])
  (refine Jt 12 (.int .i64 wd) rfl (yif_load1 rfl (by intro W hW;have y:=hW.2.2.1.has 0 _ rfl;clear hW;go_simp)) hH ?_;try simp only [J])
  (refine Ji 13 _ rfl hH ?_;try simp only [J])
  (refine Jt 14 (.int .i64 wd) rfl (yif_load1 rfl (by intro W hW;have y:=hW.2.2.2.1.has 0 _ rfl;clear hW;go_simp)) hH ?_;try simp only [J])
  (refine Jk 15 (.bool true) rfl hH ?_;try simp only [J])
  (refine Jk 16 (.bool true) rfl hH ?_;try simp only [J])
  (refine Jr 21 rfl fun K hK=>?_)
  go_simp
  refine (aw wd tv a4 (by omega) (by omega) _).mono ?_
  rintro r w8 ⟨rfl,ac⟩
  refine hK.out _ _ ⟨hH.1.trans ac,hH.2.1.ext ac,hH.2.2.1.ext ac,hH.2.2.2.1.ext ac,hH.2.2.2.2.ext ac⟩ (fun hH=>?_)
  clear hK K
  try simp only [J]
  (refine Jk 22 (.agg (Bt.cells ⟨wd,tv%2^wd.toNat⟩).toArray) rfl hH ?_;try simp only [J])
  (refine Jk 23 (.int .i64 0) rfl hH ?_;try simp only [J])
  (refine Jr 24 rfl fun K hK=>?_)
  refine Az rfl 151 _ _ rfl ((au.out.ext ab).ext ac) rfl (cs:=Bt.cells ⟨wd,tv%2^wd.toNat⟩) rfl Ae rfl rfl rfl ?_
  intro w9 ah af
  refine hK.out _ _ ⟨hH.1.grown af (by omega),hH.2.1.grown af (by omega),hH.2.2.1.grown af (by omega),hH.2.2.2.1.grown af (by omega),hH.2.2.2.2.grown af (by omega)⟩ (fun hH=>?_)
  clear hK K
  try simp only [J]
  (refine Jk 25 (.int .i64 0) rfl hH ?_;try simp only [J])
  refine Jz ?_
  go_wp2_with ((with_reducible show bodyPost _ _ _ _ _ _);refine Hid.out ?_)
  refine Jh ?_
  refine Am rfl rfl rfl ah.has Ae rfl rfl ⟨?_,hH.1⟩
  rw [Nat.mod_eq_of_lt a5.out];rfl
def VBt (_:World) (cs:List Value) (x:Bt):Prop:=cs=x.cells
theorem VBt.at {W:World} {cs:List Value} {x:Bt} {b o:Nat} (h:Has W b o cs) (hv:VBt W cs x):Nv W x b o:=by subst hv;exact h
theorem VBt.st {N:Nat} {R:Option Nat} {w:World} {x:Bt}:StV VBt N R w x.cells x:=fun _ _ _=>rfl
theorem Bi.empty {α:Type} {V:World->List Value->α->Prop} {e:TypeId} {size N B:Nat} {w:World} (hb:Blk w B #[] e) (hN:N<=B):Bi V e size N (.slice (some ⟨B,0,none⟩) 0 0) ([]:List α) w :=
 ⟨[],⟨by simp,.inr ⟨B,0,#[],rfl,hN,hb,Nat.le_refl _,by simp [maxLen],by simp,by simp⟩⟩,rfl,by simp,fun i h=>by simp at h⟩
def Uz (g:FuncId) (lb:Array Value) (f:E->Bt) (wb:World) (e:E):Prop:=∀ (cs:List Value) (w:World),Ext wb w->VE w cs e->nodes e<=1048576 ->
 Calls Tryz.prog 135 #[.agg cs.toArray,.func (.func g) #[] lb] w fun r w'=>r=.returned (.agg (f e).cells.toArray)/\Ext w w'
theorem Afr (g:FuncId) (lb:Array Value) (eg:Bj Tryz.prog g) (f:E->Bt) (wb:World) (e:E)
  (ax:∀ (cs:List Value) (s:Value) (W:World),Ext wb W->VE W cs e->Bts W s (e.l.map f)->Calls Tryz.prog g (#[.agg cs.toArray,s]++lb) W fun r w'=>r=.returned (.agg (f e).cells.toArray)/\Ext W w')
  (ih:∀ x∈e.l,Uz g lb f wb x):Uz g lb f wb e:=by
 intro cs w a1 hV hn
 have a6:=Jh ax
 have IH:=Jh ih
 have aq:=Jh a1
 have a9:=Jh (fun W (h:Ext w W)=>hV.ext h)
 have az:=C7 e
 obtain ⟨s,rfl,hs⟩:=hV
 have bk:=Jh (fun W (h:Ext w W)=>hs.ext h)
 obtain ⟨a,b,o,cap,rfl,bl,bm,ha,hr⟩:=hs.open
 clear ax ih a1 hs
 have x1:=Ab w (.cells (e.cells (.slice a e.l.length cap)).toArray 40)
 have x2:=Ab (w.alloc (.cells (e.cells (.slice a e.l.length cap)).toArray 40)) (.cells #[.int .i64 0,.int .u64 0] 151)
 have hE:=(Blk.new w (e.cells (.slice a e.l.length cap)).toArray 40).ext x2
 have hR:=Blk.new (w.alloc (.cells (e.cells (.slice a e.l.length cap)).toArray 40)) #[.int .i64 0,.int .u64 0] 151
 have hX:=x1.trans x2
 simp only [World.size_alloc] at hR
 clear x1 x2
 have HN:=Jh hn
 have ap:=Jh az
 clear hn az
 go_enter Tryz.func135,Tryz.ntmps135
 go_upto_region 1 with fail
 generalize (w.alloc _).alloc _=w0 at *
 have x3:=Ab w0 (.cells #[] 151)
 have hL:=Blk.new w0 #[] 151
 have HE:=Jh (hE.ext x3)
 have a5:=Jh hE
 have a7:=Jh hR
 have af:=Jh hX
 have ae:=Bi.empty (V:=VBt) (size:=2) (N:=w0.heap.size) hL (Nat.le_refl _)
 have am:w0.heap.size<(w0.alloc (.cells #[] 151)).heap.size:=by simp
 have ak:=x3
 clear hE hR hX x3 hL
 go_wp2_with ((with_reducible show Jw (Op.buildSlice _ _ _));refine Hz rfl _ rfl Ic ?_;have g7:=HE.out.has 7 _ rfl)
 generalize w0.alloc _=w1 at *
 go_loopw [5,7,12] (fun v _ i wr=>∃ k:Nat,k<=e.l.length/\i=.int .i64 k/\Bi VBt 151 2 w0.heap.size v ((e.l.take k).map f) wr/\Ext w0 wr) (fun _ _ i _=>e.l.length-(intOf i).toNat)
 case atStart=>exact ⟨0,Nat.zero_le _,rfl,ae,ak⟩
 case round =>
  obtain ⟨k,hk,rfl,ae,hB⟩:=hrel
  have ab:=Jh ae
  have u:=Jh hB
  have bo:=hB.size
  clear ae hB ak
  by_cases al:k<e.l.length
  ·obtain rfl:=ha (by omega)
   have ai:e.l[k]∈e.l:=List.getElem_mem al
   have bg:=Bf nodes e.l _ ai
   have ay:nodes e.l[k]<=1048576:=by have:=HN.out;have:=ap.out;omega
   obtain ⟨s2,h1,h2⟩:=Es.get (hr.mono fun x _ b o h=>EAt.ext ((af.out.trans u.out)) x b o h) al
   have an:VE wr (e.l[k].cells s2) e.l[k]:=⟨s2,rfl,h2⟩
   have hex:=Ab wr (.cells (e.l[k].cells s2).toArray 40)
   have bd:=Has.alloc wr (e.l[k].cells s2) 40
   have HC:=Jh (IH.out _ ai (e.l[k].cells s2) _ ((aq.out.trans (af.out.trans u.out)).trans hex) (an.ext hex) ay)
   have ah:(e.l[k].cells s2).all (·.oneCell')=true:=an.one
   have au:(e.l.take (k+1)).map f=(e.l.take k).map f++[f e.l[k]]:=by rw [Ba _ _ al,List.map_append,List.map_cons,List.map_nil]
   have ag:((e.l.take k).map f).length=k:=by rw [List.length_map,List.length_take];omega
   have a4:=Jh au
   have ao:=Jh ag
   have HK:=Jh (show k+1<=16777216 by have:=HN.out;have:=ap.out;have:=A8 nodes e.l (fun x _=>Gh x);omega)
   generalize (e.l.take k).map f=rr at *
   generalize e.l[k]=x at *
   clear au ag an h2 bg ay ai
   go_upto_region 5 with (first | ((with_reducible show Jl 40);refine Aa rfl 40 _ rfl rfl (h1) Ah rfl ?_) | ((with_reducible show Js 40);refine Ad rfl 40 _ _ rfl rfl (by first | rfl | simp) rfl Ah (rfl) rfl (ah) ?_))
   generalize wr.alloc _=w2 at *
   have ba:=Jh hex
   clear hex h1
   go_wp2_with (first | ((with_reducible show Jl 40);refine Aa rfl 40 _ rfl rfl (bd) Ah rfl ?_) | (go_at_call 135;refine (HC.out).mono ?_;rintro r w3 ⟨rfl,ak⟩) | ((with_reducible show Jw (Op.buildSlice _ _ _));refine B9 rfl _ _ rfl Ic rfl (cs:=(f x).cells) rfl rfl (by decide) ?_) | ((with_reducible show Jw (Op.call { callee:=.builtin .append,args:=_,argTypes:=_ }));refine Hid.out ?_))
   refine Jh ?_
   have a2:=Ab w3 (.cells (f x).cells.toArray 151)
   have av:=Has.alloc w3 (f x).cells 151
   have ac:=(ba.out.trans ak).trans a2
   have aa:=ab.out.since (Al.of_ext (N:=w0.heap.size) ac)
   have bf:=HK.out
   have ag:=ao.out
   refine De rfl _ _ _ rfl Ic rfl aa rfl rfl av rfl (y:=f x) VBt.st (by omega) (by have:=ac.size;omega) ?_
   intro g7 bi w7 aj aw
   have ar:Ext w0 w7:=Ext.grownO (u.out.trans ac) aw (fun j hj=>(aa.lt j hj).1)
   have a8:=Jh aj
   have bb:=Jh ar
   clear aj ar aw aa a2 av ac bf
   rw [ag]
   clear ag
   generalize w3.alloc _=w4 at *
   go_wp2_with fail
   go_roundw
   case rel=>exact ⟨k+1,by omega,by go_num,by have h:=a8.out;rw [ao.out] at h;rw [a4.out];exact h,bb.out⟩
   case measure=>simp [intOf];omega
  ·obtain rfl:k=e.l.length:=by omega
   rw [List.take_length] at ab
   have am:=Bi.sl (V:=VBt) (At:=Nv) (fun _ _ _ _ _ h hv=>VBt.at h hv) ab.out (Al.refl _ wr)
   have HC:=Jh (a6.out _ _ wr (aq.out.trans (af.out.trans u.out)) (a9.out wr (af.out.trans u.out)) am)
   have e0:=(a5.out.ext u.out).has
   obtain ⟨ra,bj,a0,-⟩:=ab.out.open
   rw [List.length_map] at a0
   subst a0
   clear am
   go_wp2_with (first | ((with_reducible show Jl 40);refine Aa rfl 40 _ rfl rfl (e0) Ah rfl ?_) | ((with_reducible show Jw (Op.call { callee:=.value (.tmp _),args:=_,argTypes:=_ }));refine As rfl _ _ _ rfl rfl eg rfl HC.out ?_;intro w5 a3) | ((with_reducible show Js 151);refine Ac rfl 151 _ _ rfl ((a7.out.ext u.out).ext a3) rfl (cs:=(f e).cells) (rfl) Ae (rfl) rfl (rfl) ?_;intro w6 bc be))
   refine Av rfl rfl bc.has Ae rfl rfl ⟨rfl,?_⟩
   exact ((af.out.trans u.out).trans a3).grown be (by omega)
theorem Ac3 (g:FuncId) (lb:Array Value) (eg:Bj Tryz.prog g) (f:E->Bt) (wb:World) (j:E->Prop) (u:∀ e,j e->∀ x∈e.l,j x)
  (aa:∀ e,j e->∀ (cs:List Value) (s:Value) (W:World),Ext wb W->VE W cs e->Bts W s (e.l.map f)->Calls Tryz.prog g (#[.agg cs.toArray,s]++lb) W fun r w'=>r=.returned (.agg (f e).cells.toArray)/\Ext W w')
  (e:E):j e->Uz g lb f wb e :=
 E.ind (P:=fun e=>j e->Uz g lb f wb e) (fun e ih h=>Afr g lb eg f wb e (aa e h) fun x hx=>ih x hx (u e h x hx)) e
theorem Aff {wa wd:Int} {v k:Nat} (h1:1<=wa) (h2:wa<=wd) (h3:wd<=64) (hv:v<2^wa.toNat) (hk:wa.toNat+k=64) :
  ∃ (s:Nat) (q:Int) (n:Nat),IntKind.u64.wrap ((v:Int)*2^k)=(s:Int)/\IntKind.i64.wrap (s:Int)=q/\IntKind.u64.wrap (q / 2^k)=(n:Int)/\True/\n<2^64/\n%2^wd.toNat=Ir 32 wd.toNat wa.toNat v:=by
 obtain ⟨A,hA⟩:∃ A,wa.toNat=A+1:=⟨wa.toNat-1,by omega⟩
 obtain ⟨D,hD⟩:∃ D,wd.toNat=D:=⟨_,rfl⟩
 have ae:A+1<=D:=by omega
 have u:D<=64:=by omega
 rw [hA] at hv hk ⊢
 rw [hD]
 have aa:2^(A+1)*2^k=18446744073709551616:=by rw [<-Nat.pow_add,hk]
 have ac:2^(A+1)=2*2^A:=by rw [Nat.pow_succ];omega
 have ag:2^(A+1)<=2^D:=Nat.pow_le_pow_right (by decide) ae
 have af:2^D*2^(64-D)=18446744073709551616:=Rm u
 have hM:2^D<=18446744073709551616:=Nat.pow_le_pow_right (n:=2) (by decide) u
 have ab:=Nat.two_pow_pos k
 have ai:v*2^k<18446744073709551616:=by rw [<-aa];exact (Nat.mul_lt_mul_right ab).2 hv
 have hc:((2:Int)^k)=((2^k:Nat):Int):=by norm_cast
 refine ⟨v*2^k,IntKind.i64.wrap ((v*2^k:Nat):Int),if 2^A<=v then 18446744073709551616-(2^(A+1)-v) else v,?_,rfl,?_,trivial,?_,?_⟩
 ·rw [hc,IntKind.wrap_u64]
  rw [show ((v:Int)*((2^k:Nat):Int))=((v*2^k:Nat):Int) by norm_cast]
  omega
 ·rw [IntKind.wrap_i64,IntKind.wrap_u64,hc]
  have hh:2^A*2^k=9223372036854775808:=by
   have:2*(2^A*2^k)=18446744073709551616:=by rw [<-Nat.mul_assoc,<-ac,aa]
   omega
  by_cases j:2^A<=v
  ·rw [if_pos j]
   have h5:9223372036854775808<=v*2^k:=by rw [<-hh];exact Nat.mul_le_mul_right _ j
   have e:(((v*2^k:Nat):Int)+9223372036854775808)%18446744073709551616-9223372036854775808=((v:Int)-(2^(A+1):Nat))*((2^k:Nat):Int):=by
    rw [Int.sub_mul]
    have:((2^(A+1):Nat):Int)*((2^k:Nat):Int)=18446744073709551616:=by rw [<-Int.natCast_mul,aa];rfl
    rw [this,<-Int.natCast_mul]
    omega
   rw [e,Int.mul_ediv_cancel _ (by omega)]
   omega
  ·rw [if_neg j]
   have h5:v*2^k<9223372036854775808:=by rw [<-hh];exact (Nat.mul_lt_mul_right ab).2 (by omega)
   have e:(((v*2^k:Nat):Int)+9223372036854775808)%18446744073709551616-9223372036854775808=(v:Int)*((2^k:Nat):Int):=by
    rw [<-Int.natCast_mul]
    omega
   rw [e,Int.mul_ediv_cancel _ (by omega)]
   omega
 ·split<;>omega
 ·unfold Ir
  rw [show A+1-1=A by omega]
  by_cases j:2^A<=v
  ·rw [if_pos j,if_pos ⟨rfl,j⟩]
   generalize 2^D=M at *
   generalize 2^(A+1)=N at *
   generalize 2^(64-D)=K at *
   have hK:1<=K:=by
    rcases Nat.eq_zero_or_pos K with h | h
    ·rw [h] at af;omega
    ·exact h
   have h6:18446744073709551616-(N-v)=M*(K-1)+(v+(M-N)):=by
    have:M*(K-1)=M*K-M:=by rw [Nat.mul_sub,Nat.mul_one]
    have:M<=M*K:=Nat.le_mul_of_pos_right _ hK
    omega
   rw [h6,Nat.mul_add_mod,Nat.mod_eq_of_lt (by omega)]
  ·rw [if_neg j,if_neg (by omega),if_neg (by decide),Nat.mod_eq_of_lt (by omega)]
theorem Abj (op wd:Int) (h1:31<=op) (h3:op<=33) (h0:1<=wd) (ai:wd<=64) (a:Bt) (ha:a.ok) (hz:op≠33->a.w<=wd) (hc:op=33->wd<=a.w) (w:World) :
  Calls Tryz.prog 170 #[.int .i64 op,.int .i64 wd,.agg a.cells.toArray] w (Gk w ⟨wd,Ir op wd.toNat a.w.toNat a.v⟩):=by
 have HX:=Jh ((Ab w (.cells a.cells.toArray 151)).trans (Ab _ (.cells #[.int .i64 0,.int .u64 0] 151)))
 have hD:=(Blk.new w a.cells.toArray 151).ext (Ab _ (.cells #[.int .i64 0,.int .u64 0] 151))
 have hR:=Blk.new (w.alloc (.cells a.cells.toArray 151)) #[.int .i64 0,.int .u64 0] 151
 rw [show (w.alloc (.cells a.cells.toArray 151)).heap.size=w.heap.size+1 by simp] at hR
 have hm:=fun W=>Mm a ha W
 have HM:=Jh hm
 have ac:=Bt.lt64 ha
 have a1:=ha.1
 have a2:=ha.2.1
 have a3:=ha.2.2
 have af:=fun (wd:Int) (n:Nat) (hn:n<2^64) (h0:0<=wd) (h1:wd<=64) (w:World)=>Hb wd n hn h0 h1 w
 clear hm
 obtain ⟨wa,v⟩:=a
 simp only at a1 a2 a3 hz hc ac
 have HA:=Jh a3
 clear a3
 have ag:=hD.has
 have HD:=Jh hD
 have HR:=Jh hR
 clear hD hR
 have ak:op=31\/op=32\/op=33:=by omega
 clear h1 h3
 have b1:decide (0<wd)=true:=by simp;omega
 have b2:decide (wd<=64)=true:=by simp;omega
 go_enter Tryz.func170,Tryz.ntmps170
 go_upto_region 1 with fail
 generalize (w.alloc _).alloc _=w0 at *
 rcases ak with rfl | rfl | rfl
 ·have b3:wa<=wd:=hz (by decide)
  clear hz hc
  go_wp2_with (first | ((with_reducible show Jl 151);refine Aa rfl 151 _ rfl rfl (ag) Ae rfl ?_) | (go_at_call 188;refine (HM.out _).mono ?_;rintro r w1 ⟨rfl,j⟩;have g0:=(HD.out.ext j).has 0 _ rfl;have g1:=(HD.out.ext j).has 1 _ rfl) | (go_at_call 187;refine (af wd v ac (by omega) (by omega) _).mono ?_;rintro r w3 ⟨rfl,u⟩) | ((with_reducible show Js 151);refine Ac rfl 151 _ _ rfl (HR.out.ext (j.trans u)) rfl (cs:=Bt.cells ⟨wd,v%2^wd.toNat⟩) (rfl) Ae (rfl) rfl (rfl) ?_;intro w4 ab aa))
  refine Am rfl rfl rfl ab.has Ae rfl rfl ⟨?_,(HX.out.trans (j.trans u)).grown aa (by omega)⟩
  rw [Nat.mod_eq_of_lt (Nat.lt_of_lt_of_le HA.out (Nat.pow_le_pow_right (by decide) (by omega)))]
  simp [Ir]
 ·have b3:wa<=wd:=hz (by decide)
  clear hz hc
  go_wp2_with (first | ((with_reducible show Jl 151);refine Aa rfl 151 _ rfl rfl (ag) Ae rfl ?_) | (go_at_call 188;refine (HM.out _).mono ?_;rintro r w1 ⟨rfl,j⟩;have g0:=(HD.out.ext j).has 0 _ rfl;have g1:=(HD.out.ext j).has 1 _ rfl))
  obtain ⟨k,hk,aj⟩:∃ k:Nat,(64-wa)=(k:Int)/\wa.toNat+k=64:=⟨(64-wa).toNat,by omega,by omega⟩
  obtain ⟨s,q,n,e1,e2,e3,e4,hn,ae⟩:=Aff a1 b3 ai HA.out aj
  have E1:=Jh e1
  have E2:=Jh e2
  have E3:=Jh e3
  have E4:=Jh e4
  have HF:=Jh ae
  have HK:=Jh hk
  have al:(k:Int)<=64:=by omega
  clear e1 e2 e3 e4 ae
  rw [hk]
  clear hk
  refine wp_region_held_drew (S:=fun W=>Ext w W/\Blk W w.heap.size (Bt.cells ⟨wa,v⟩).toArray 151) (by kernel_rfl) ⟨(HX.out.trans j).drew,(HD.out.ext j).drew⟩ (fun hH=>?_)
  try simp only [J]
  (refine Ji 0 _ rfl hH ?_;try simp only [J])
  (refine Ji 1 _ rfl hH ?_;try simp only [J])
  (refine Ji 2 _ rfl hH ?_;try simp only [J])
  (refine Ji 3 _ rfl hH ?_;try simp only [J])
  (refine Jt 4 (.int .i64 wa) rfl (yif_load1 rfl (by intro W hW;have y:=hW.2.has 0 _ rfl;clear hW;go_simp)) hH ?_;try simp only [J])
  (refine Jk 5 (.bool true) rfl hH ?_;try simp only [J])
  (refine Jk 6 (.bool true) rfl hH ?_;try simp only [J])
  (refine Ji 7 _ rfl hH ?_;try simp only [J])
  (refine Ji 8 _ rfl hH ?_;try simp only [J])
  (refine Jt 9 (.int .u64 (v:Int)) rfl (yif_load1 rfl (by intro W hW;have y:=hW.2.has 1 _ rfl;clear hW;go_simp)) hH ?_;try simp only [J])
  (refine Ji 10 _ rfl hH ?_;try simp only [J])
  (refine Jt 11 (.int .u64 (s:Int)) rfl (yif_load1 rfl (by intro W hW;clear hW;go_simp;exact E1.out)) hH ?_;try simp only [J])
  (refine Jt 12 (.int .i64 q) rfl (yif_load1 rfl (by intro W hW;clear hW;go_simp;exact E2.out)) hH ?_;try simp only [J])
  (refine Ji 13 _ rfl hH ?_;try simp only [J])
  (refine Jk 14 (.int .i64 (q / 2^k)) rfl hH ?_;try simp only [J])
  (refine Jt 15 (.int .u64 (n:Int)) rfl (yif_load1 rfl (by intro W hW;clear hW;go_simp;exact E3.out)) hH ?_;try simp only [J])
  (refine Jr 16 rfl fun K hK=>?_)
  go_simp
  refine (af wd n hn (by omega) (by omega) _).mono ?_
  rintro r w3 ⟨rfl,u⟩
  refine hK.out _ _ ⟨hH.1.trans u,hH.2.ext u⟩ (fun hH=>?_)
  clear hK K
  try simp only [J]
  (refine Jk 17 (.agg (Bt.cells ⟨wd,n%2^wd.toNat⟩).toArray) rfl hH ?_;try simp only [J])
  (refine Jk 18 (.int .i64 0) rfl hH ?_;try simp only [J])
  (refine Jr 19 rfl fun K hK=>?_)
  refine Az rfl 151 _ _ rfl ((HR.out.ext j).drew.ext u) rfl (cs:=Bt.cells ⟨wd,n%2^wd.toNat⟩) rfl Ae rfl rfl rfl ?_
  intro w4 ab aa
  refine hK.out _ _ ⟨hH.1.grown aa (by omega),hH.2.grown aa (by omega)⟩ (fun hH=>?_)
  clear hK K
  try simp only [J]
  (refine Jk 20 (.int .i64 0) rfl hH ?_;try simp only [J])
  refine Jz ?_
  go_wp2_with ((with_reducible show bodyPost _ _ _ _ _ _);refine Hid.out ?_)
  refine Jh ?_
  refine Am rfl rfl rfl ab.has Ae rfl rfl ⟨?_,hH.1⟩
  rw [HF.out];rfl
 ·have b3:wd<=wa:=hc rfl
  clear hz hc
  go_wp2_with (first | ((with_reducible show Jl 151);refine Aa rfl 151 _ rfl rfl (ag) Ae rfl ?_) | (go_at_call 188;refine (HM.out _).mono ?_;rintro r w1 ⟨rfl,j⟩;have g0:=(HD.out.ext j).has 0 _ rfl;have g1:=(HD.out.ext j).has 1 _ rfl) | (go_at_call 187;refine (af wd v ac (by omega) (by omega) _).mono ?_;rintro r w3 ⟨rfl,u⟩) | ((with_reducible show Js 151);refine Ac rfl 151 _ _ rfl (HR.out.ext (j.trans u)) rfl (cs:=Bt.cells ⟨wd,v%2^wd.toNat⟩) (rfl) Ae (rfl) rfl (rfl) ?_;intro w4 ab aa))
  refine Am rfl rfl rfl ab.has Ae rfl rfl ⟨?_,(HX.out.trans (j.trans u)).grown aa (by omega)⟩
  simp [Ir]
end Go.Proofs.YtbliplladmamoaaGreat
