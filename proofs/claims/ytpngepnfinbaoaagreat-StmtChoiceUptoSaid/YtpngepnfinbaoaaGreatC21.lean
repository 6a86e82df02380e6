/- Laws and walks that a claim of this seat leans on: StmtL, StmtL2, StmtL3, Live11L, Since, Law11, StmtL4, StmtL5, StmtL6, PlayL, WordB, Play1, Play2. -/
import Derived.Test.YtpngepnfinbaoaaGreatC20
import Derived.Test.YtpngepnfinbaoaaGreatC16
import Derived.Test.YtpngepnfinbaoaaGreatC15
import Derived.Test.YtpngepnfinbaoaaGreatC13
import Derived.Test.YtpngepnfinbaoaaGreatC19
import Derived.Test.YtpngepnfinbaoaaGreatC00
set_option maxRecDepth 100000
set_option maxHeartbeats 8000000
set_option linter.all false
namespace Go.Proofs.YtpngepnfinbaoaaGreat
open Go.RowKit
def clkD (d:Flat) (p:Int):Bool:=(d.procs[p.toNat]?.map (·.clocked)).getD false
def runL (d:Flat) (p:Int) (v:List Nat):List Nat:=allM (clkD d p) v (procL d p) v
theorem runM_eq (d:Flat) (vs:List Nat) (p:Int):runM d vs p=if valsOk d vs=true/\0<=p/\p<d.procs.length then (runL d p vs,0) else ([],1):=rfl
theorem procL_ok {d:Flat} (hok:d.ok) (hc:checkM d=0) {p:Int} (h0:0<=p) (h1:p<d.procs.length):∀ t∈procL d p,RunOk d.signals (clkD d p) t:=by
 have hk:p.toNat<d.procs.length:=by omega
 unfold procL clkD
 rw [List.getElem?_eq_getElem hk]
 exact runOk_check hok hc _ (List.getElem_mem hk)
theorem run_two {d:Flat} (hok:d.ok) (hc:checkM d=0) {p:Int} (h0:0<=p) (h1:p<d.procs.length) {v v':List Nat} (hv:Val2 d.signals v) (hv':Val2 d.signals v') (hag:Ag d.signals v v' (RdL d.signals (procL d p))) :
  Two d.signals v v' (runL d p v) (runL d p v') (·∈alwM (offsM d.signals d.signals.length) (procL d p)) (WrL d.signals (procL d p)) :=
 allM_two (checkM_w hc) hv hv' (P:=RdL d.signals (procL d p)) (fun _=>hag) _ (procL_ok hok hc h0 h1) (fun _ h=>h) v v' hv hv' fun _=>hag
theorem run_kept {d:Flat} (hok:d.ok) (hc:checkM d=0) {p:Int} (h0:0<=p) (h1:p<d.procs.length) {v:List Nat} (hv:Val2 d.signals v):Val2 d.signals (runL d p v)/\Ag d.signals v (runL d p v) (fun x=>¬ WrL d.signals (procL d p) x):=by
 obtain ⟨ok,W,-,a2,-,a4,-⟩:=run_two hok hc h0 h1 hv hv (Ag.refl _ _ _)
 exact ⟨ok.1,a4.mono fun x hx hw=>hx (a2 x hw)⟩
def whereK (s:List Int) (n:Int):Nat->Nat
 | 0=>0
 | i+1=>if s.getD i 0<=n then i else whereK s n i
def bitN11 (ls:List Signal) (v:List Nat) (n:Int):Nat:=(v.getD (whereK (offsM ls ls.length) n ls.length) 0) / 2^(n-sumW ls (whereK (offsM ls ls.length) n ls.length)).toNat%2
theorem run_choice (c:Bool) (was v:List Nat) {t a b:T} {e:E} (ho:t.op=2) (he:t.e=[e]) (hl:t.l=[a,b]):allM c was [t] v=if evM (if c then was else v) e=0 then allM c was b.l v else allM c was a.l v:=by
 rw [allM_cons,allM_nil,oneM_2 c was v ho,he,hl]
 show oneM.nthM c was [a,b] (if evM _ e=0 then 1 else 0) v=_
 by_cases h:evM (if c then was else v) e=0
 ·rw [if_pos h,if_pos h,nthM_eq c was [a,b] 1 v (by simp)];rfl
 ·rw [if_neg h,if_neg h,nthM_eq c was [a,b] 0 v (by simp)];rfl
def put11 (n:Int) (e:E):T:=⟨1,n,0,0,[e],[]⟩
def block11 (l:List T):T:=⟨5,0,0,0,[],l⟩
def choice11:T:=⟨2,0,0,0,[sigX 1 0 0 0],[block11 [put11 3 (sigX 1 1 0 0)],block11 []]⟩
def d11:Flat:=⟨[⟨⟨#[97]⟩,1,1,0⟩,⟨⟨#[98]⟩,1,1,0⟩,⟨⟨#[121]⟩,1,2,0⟩,⟨⟨#[122]⟩,1,2,0⟩],[⟨false,[put11 2 (sigX 1 0 0 0),choice11]⟩],[]⟩
theorem d11_check:checkM d11=0:=by decide +kernel
theorem d11_vals:valsOk d11 [1,1,0,0]=true:=by decide +kernel
theorem d11_none:valsOk d11 []=false:=by decide +kernel
theorem d11_run:runM d11 [1,1,0,0] 0=([1,1,1,1],0):=by
 unfold runM
 rw [if_pos ⟨d11_vals,by decide,by decide⟩]
 exact congrArg (·,0) (by decide +kernel)
theorem d11_run0:runM d11 [] 0=([],1):=by
 unfold runM
 rw [if_neg fun h=>absurd h.1 (by rw [d11_none];decide)]
theorem d11_offs:offsD d11=[0,1,2,3,4]:=by decide +kernel
theorem d11_reads:readsM d11 0=[0,1]:=by
 unfold readsM
 rw [numbersM_set,setI_eq _ [0,1] (by decide) fun x=>by rw [show allNums (offsD d11) (spansR d11.signals (procL d11 0))=[0,0,1] by decide +kernel];simp]
theorem d11_writes:writesM d11 0=[2,3]:=by
 unfold writesM
 rw [numbersM_set,setI_eq _ [2,3] (by decide) fun x=>by rw [show allNums (offsD d11) (spansW (procL d11 0))=[2,3] by decide +kernel]]
theorem d11_always:alwaysM d11 0=[2]:=by
 unfold alwaysM alwM
 refine setI_eq _ [2] (by decide) fun x=>?_
 rw [<-setI_mem]
 show x∈alwM (offsD d11) [put11 2 (sigX 1 0 0 0),choice11]↔_
 rw [alwM_cons,alwM_cons,alt_eq,if_pos (show (put11 2 (sigX 1 0 0 0)).op=1 from rfl),alt_eq,if_neg (show ¬ choice11.op=1 by decide),if_pos (show choice11.op=2\/choice11.op=3 from .inl rfl),mem_numbersM]
 constructor
 ·rintro (⟨s,hs,j,h1,h2,rfl⟩ | h | h)
  ·obtain rfl:=List.mem_singleton.1 hs
   have e1:(ownS (put11 2 (sigX 1 0 0 0))).lo=0:=rfl
   have e2:(ownS (put11 2 (sigX 1 0 0 0))).hi=0:=rfl
   rw [e1] at h1
   rw [e2] at h2
   obtain rfl:j=0:=by omega
   exact List.mem_singleton.2 (by decide +kernel)
  ·exact absurd (metM_all h (alwM (offsD d11) []) (by simp [choice11,block11])) (alwM_nil _ _)
  ·exact absurd h (alwM_nil _ _)
 ·intro h
  obtain rfl:=List.mem_singleton.1 h
  exact .inl ⟨_,List.mem_singleton.2 rfl,0,by decide,by decide,by decide +kernel⟩
theorem d11_told:toldOk d11 0=true:=by unfold toldOk;rw [d11_check];decide
theorem d11_told1:¬ toldOk d11 1=true:=by unfold toldOk;rw [d11_check];decide
theorem d11_ok:d11.ok where
 wf:={
  signals:=by
   intro x hx
   simp [d11] at hx
   rcases hx with rfl | rfl | rfl | rfl<;>exact ⟨by unfold i64r;decide,by unfold i64r;decide,by unfold u64r;decide,by decide⟩
  procs:=by
   intro p hp t ht
   simp [d11] at hp
   subst hp
   simp at ht
   rcases ht with rfl | rfl<;>simp [T.wf,T.wf.wfs,E.wf,E.wf.wfs,put11,choice11,block11,sigX,i64r,u64r]
  checks:=by intro c hc;cases hc }
 nodes:=by decide +kernel
 signals:=by decide
 procs:=by decide
 checks:=by decide
theorem Since.more {N B:Nat} {a b c:World} (h:Since N a b) (hg:b.grownBy c (some B)) (hB:B<N\/a.heap.size<=B):Since N a c :=
 ⟨Nat.le_trans h.1 hg.size,fun x h1 h2=>(hg.block x (Nat.lt_of_lt_of_le h2 h.1) (by intro e;injection e;omega)).trans (h.2 x h1 h2)⟩
theorem sig11_calls (n:Int) (w:World):Calls Tryz.prog 12 #[.int .i64 n] w fun r w'=>r=.returned (.agg ((sigX 1 n 0 0).cells (.slice none 0 0)).toArray)/\Ext w w':=by
 go_enter Tryz.func12,Tryz.ntmps12
 go_upto_region 1 with fail
 have hx:=ext_alloc w (.cells ((sigX 1 n 0 0).cells (.slice none 0 0)).toArray 31)
 have hb:=Blk.new w ((sigX 1 n 0 0).cells (.slice none 0 0)).toArray 31
 go_wp2_with ((with_reducible show Js 31);refine wpList_store_new rfl 31 _ _ rfl rfl (by first | rfl | simp) (cs:=(sigX 1 n 0 0).cells (.slice none 0 0)) rfl agg_E rfl rfl (by simp [one_int,Value.oneCell']) ?_)
 refine post_ret_blk rfl rfl hb.has agg_E rfl rfl ⟨rfl,hx⟩
theorem sigX_VE (n:Int) (w:World):VE w ((sigX 1 n 0 0).cells (.slice none 0 0)) (sigX 1 n 0 0):=⟨_,rfl,Sl.nil _ _⟩
theorem block11_calls (a:Option Addr) (n c:Nat) (w:World):Calls Tryz.prog 7 #[.slice a n c] w fun r w'=>r=.returned (.agg #[.int .i64 5,.int .i64 0,.int .i64 0,.int .i64 0,.slice none 0 0,.slice a n c])/\Ext w w':=by
 go_enter Tryz.func7,Tryz.ntmps7
 go_upto_region 1 with fail
 have hx:=ext_alloc w (.cells [.int .i64 5,.int .i64 0,.int .i64 0,.int .i64 0,.slice none 0 0,.slice a n c].toArray 39)
 have hb:=Blk.new w [.int .i64 5,.int .i64 0,.int .i64 0,.int .i64 0,.slice none 0 0,.slice a n c].toArray 39
 go_wp2_with ((with_reducible show Js 39);refine wpList_store_new rfl 39 _ _ rfl rfl (by first | rfl | simp) (cs:=[.int .i64 5,.int .i64 0,.int .i64 0,.int .i64 0,.slice none 0 0,.slice a n c]) rfl agg_T rfl rfl (by simp [one_int,Value.oneCell']) ?_)
 refine post_ret_blk rfl rfl hb.has agg_T rfl rfl ⟨rfl,hx⟩
theorem put11_calls (N:Nat) (n:Int) (cs:List Value) (e:E) (w:World) (h:FV VE N w cs e) (hN:N<=w.heap.size) :
  Calls Tryz.prog 13 #[.int .i64 n,.agg cs.toArray] w fun r w'=>∃ cs',r=.returned (.agg cs'.toArray)/\cs'.length=6/\cs'.all (·.oneCell')=true/\FV VT N w' cs' (put11 n e)/\Ext w w':=by
 have HV:=Jh h
 obtain ⟨sv,rfl,hes⟩:=h.here
 have hone:(e.cells sv).all (·.oneCell')=true:=by simp [hes.one,one_int]
 have hx1:=ext_alloc w (.cells (e.cells sv).toArray 31)
 have hb1:=Blk.new w (e.cells sv).toArray 31
 clear hes
 go_enter Tryz.func13,Tryz.ntmps13
 go_upto_region 1 with fail
 have hx2:=ext_alloc (w.alloc (.cells (e.cells sv).toArray 31)) (.cells #[.int .i64 0,.int .i64 0,.int .i64 0,.int .i64 0,.slice none 0 0,.slice none 0 0] 39)
 have hb2:=Blk.new (w.alloc (.cells (e.cells sv).toArray 31)) #[.int .i64 0,.int .i64 0,.int .i64 0,.int .i64 0,.slice none 0 0,.slice none 0 0] 39
 rw [show (w.alloc (.cells (e.cells sv).toArray 31)).heap.size=w.heap.size+1 by simp] at hb2
 have hb12:=hb1.ext hx2
 have hX2:=hx1.trans hx2
 generalize (w.alloc _).alloc _=w2 at *
 go_wp2_with (first | ((with_reducible show Jl 31);refine Jm 31 (hb12.has) agg_E rfl ?_) | ((with_reducible show Jw (Op.buildSlice _ _ _));refine Hid.out ?_))
 refine Jh ?_
 refine wpList_bs1 rfl _ _ rfl appE rfl (cs:=e.cells sv) rfl rfl (by decide) ?_
 have hx3:=ext_alloc w2 (.cells (e.cells sv).toArray 31)
 have hb3:=Blk.new w2 (e.cells sv).toArray 31
 have hX3:=hX2.trans hx3
 have hbp:=hb2.ext hx3
 have hz2:=hb2.lt
 generalize w2.alloc _=w3 at *
 obtain ⟨B2,hB2⟩:∃ B2,w2.heap.size=B2:=⟨_,rfl⟩
 rw [hB2] at hb3 hz2 ⊢
 clear hB2
 go_wp2_with ((with_reducible show Js 39);refine wpList_store_blk rfl 39 _ _ rfl hbp rfl (cs:=(put11 n e).cells (.slice (some ⟨B2,0,none⟩) 1 1) (.slice none 0 0)) rfl agg_T rfl rfl (by simp [one_int,Value.oneCell']) ?_;intro w5 hb5 hg5)
 have hX5:Ext w w5:=Ext.grown hX3 hg5 (by omega)
 have hb35:=hb3.grown hg5 (by omega)
 have HX5:=Jh hX5
 have HB35:=Jh hb35
 have hfv:FV VT N w5 ((put11 n e).cells (.slice (some ⟨B2,0,none⟩) 1 1) (.slice none 0 0)) (put11 n e):=fun W hW =>
  ⟨_,_,rfl,⟨B2,0,⟨_,1,rfl,Nat.le_refl _,by decide,fun _=>rfl⟩,VE.at (hW.blk HB35.out (by omega)).has (HV.out W ((Since.of_ext HX5.out).trans hW)),trivial⟩,Sl.nil _ _⟩
 refine post_ret_blk rfl rfl hb5.has agg_T rfl rfl ⟨_,rfl,rfl,by simp [one_int,Value.oneCell'],hfv,hX5⟩
theorem valsOk_of {d:Flat} (hc:checkM d=0) {vs:List Nat} (hv:Val2 d.signals vs):valsOk d vs=true:=by
 unfold valsOk valB
 simp only [Bool.and_eq_true,decide_eq_true_eq,List.all_eq_true]
 refine ⟨hv.1,hc,fun k hk=>?_⟩
 have:=hv.2 (k:Int) (by omega) (by have:=List.mem_range.1 hk;omega)
 simpa using this
theorem valsOk_val2 {d:Flat} {vs:List Nat} (h:valsOk d vs=true):Val2 d.signals vs:=⟨(valsOk_ck h).1,(valsOk_ck h).2.2⟩
theorem evalM_of {d:Flat} (hc:checkM d=0) {vs:List Nat} (hv:Val2 d.signals vs) {x:E} (hx:WS d.signals x) (hn:nodes x<=65536) (hd:deep x<=64):evalM d vs x=(evM vs x,0):=by
 unfold evalM
 rw [if_pos ⟨valsOk_of hc hv,checkEM_ok (fun y hy=>(checkM_w hc y hy).2) (checkM_sigs hc) hx hn hd⟩]
theorem runM_of {d:Flat} (hc:checkM d=0) {vs:List Nat} (hv:Val2 d.signals vs) {p:Int} (h0:0<=p) (h1:p<d.procs.length):runM d vs p=(runL d p vs,0):=by
 rw [runM_eq,if_pos ⟨valsOk_of hc hv,h0,h1⟩]
theorem runL_one (ls:List Signal) (ck:Bool) (l:List T) (v:List Nat):runL ⟨ls,[⟨ck,l⟩],[]⟩ 0 v=allM ck v l v:=rfl
theorem run_chosen {ls:List Signal} {ck:Bool} {t a b:T} {e:E} (ho:t.op=2) (he:t.e=[e]) (hl:t.l=[a,b]) {v:List Nat} (hx:checkM ⟨ls,[⟨ck,[t]⟩],[]⟩=0) (hv:Val2 ls v):runM ⟨ls,[⟨ck,[t]⟩],[]⟩ v 0=(if evM v e=0 then allM ck v b.l v else allM ck v a.l v,0):=by
 rw [runM_of hx (p:=0) hv (by decide) (by simp),runL_one,run_choice ck v v ho he hl]
 cases ck<;>rfl
theorem val2_us64 {ls:List Signal} (hls:∀ x∈ls,x.w<=64) {v:List Nat} (h:Val2 ls v):us64 v:=by
 intro x hx
 obtain ⟨k,hk,rfl⟩:=List.getElem_of_mem hx
 have h1:=h.2 (k:Int) (by omega) (by have:=h.1;omega)
 rw [Int.toNat_natCast,List.getD_eq_getElem?_getD,List.getElem?_eq_getElem hk,Option.getD_some] at h1
 have h2:=sigW_le ls hls (k:Int)
 exact Nat.lt_of_lt_of_le h1 (Nat.pow_le_pow_right (by decide) (show (sigW ls (k:Int)).toNat<=64 by omega))
theorem maskN_lt {hi lo:Nat} (h:lo<=hi) (h64:hi<64):maskN hi lo<18446744073709551616:=by
 show _<2^64
 refine Nat.lt_pow_two_of_testBit _ fun i hi'=>?_
 rw [maskN_testBit];simp;omega
theorem mask_shift {hi lo:Nat} (h:lo<=hi) (h64:hi<64):IntKind.u64.wrap ((18446744073709551615:Int).fdiv (2^(63-(hi-lo)))*2^lo)=((maskN hi lo:Nat):Int):=by
 have e1:(18446744073709551615:Int)=((18446744073709551615#64).toNat:Int):=by decide
 rw [e1,u_shr,u_shl]
 congr 1
 refine Nat.eq_of_testBit_eq fun i=>?_
 rw [maskN_testBit,<-BitVec.getLsbD,show (18446744073709551615#64)=BitVec.allOnes 64 from rfl]
 simp only [BitVec.getLsbD_shiftLeft,BitVec.getLsbD_ushiftRight,BitVec.getLsbD_allOnes]
 by_cases h1:i<lo
 ·simp [h1];omega
 ·by_cases h2:i<64
  ·simp only [h1,h2,decide_true,decide_false,Bool.not_false,Bool.true_and]
   rw [decide_eq_decide];omega
  ·simp only [h2,decide_false,Bool.false_and]
   symm;rw [decide_eq_false_iff_not];omega
theorem set_word {a hi lo x:Nat} (h:lo<=hi) (h64:hi<64) (ha:a<18446744073709551616) (hx:x<2^(hi+1-lo)) :
  bits .or .u64 (bits .and .u64 (a:Int) ((18446744073709551615-maskN hi lo:Nat):Int)) (IntKind.u64.wrap ((x:Int)*2^lo))=((setBits a hi lo x:Nat):Int):=by
 have hm:=maskN_lt h h64
 have hxl:2^lo*x<18446744073709551616:=by
  have h1:2^lo*x<2^lo*2^(hi+1-lo):=(Nat.mul_lt_mul_left (Nat.two_pow_pos _)).2 hx
  rw [<-Nat.pow_add] at h1
  have h2:2^(lo+(hi+1-lo))<=2^64:=Nat.pow_le_pow_right (by decide) (by omega)
  have:(2:Nat)^64=18446744073709551616:=by decide
  omega
 have hw:IntKind.u64.wrap ((x:Int)*2^lo)=((2^lo*x:Nat):Int):=by
  have:(x:Int)*2^lo=((2^lo*x:Nat):Int):=by push_cast;rw [Int.mul_comm]
  rw [this]
  obtain ⟨y,hy⟩:=u_nat hxl
  rw [<-hy,u_wrap]
 have hand:a &&& (18446744073709551615-maskN hi lo)<18446744073709551616:=Nat.lt_of_le_of_lt Nat.and_le_left ha
 rw [hw,n_and ha (by omega),n_or' hand hxl]
 congr 1
 have:=keep_or a hi lo x h h64 ha hx
 rw [show (2:Nat)^64-(maskN hi lo+1)=18446744073709551615-maskN hi lo by
  have:(2:Nat)^64=18446744073709551616:=by decide
  omega] at this
 exact this
abbrev W64 (x:Nat):Value:=.int .u64 (x:Int)
theorem appWord:AppT Tryz.prog 27 28 1 8:=⟨Tryz.underlying27,by kernel_rfl,by decide,by decide⟩
def WordRow (N:Nat) (v:Value) (l:List Nat) (w:World):Prop:=w.ownsRow N 28 1 v l.length (l.map (W64))
theorem WordRow.nil (N:Nat) (w:World):WordRow N (.slice none 0 0) [] w:=World.ownsRow_nil _ _ _ _
theorem WordRow.open {N:Nat} {v:Value} {l:List Nat} {w:World} (h:WordRow N v l w):∃ a cap,v=.slice a l.length cap/\(v.ownBlock=none->l=[]):=by
 rcases h.2 with ⟨rfl,h0⟩ | ⟨g,cap,cur,rfl,-⟩
 ·exact ⟨none,0,by rw [h0],fun _=>List.eq_nil_of_length_eq_zero h0⟩
 ·exact ⟨_,cap,rfl,fun h=>by cases h⟩
theorem WordRow.at {N:Nat} {v:Value} {l:List Nat} {w:World} (h:WordRow N v l w) {k:Nat} (hk:v.ownBlock=some k):N<=k/\∃ cur,w.heap[k]? = some (.cells cur 28 (0,0)):=by
 rcases h.2 with ⟨rfl,h0⟩ | ⟨g,cap,cur,rfl,hb,hg,-⟩
 ·cases hk
 ·cases hk;exact ⟨hb,cur,hg⟩
theorem WordRow.keep {N:Nat} {v:Value} {l:List Nat} {w w':World} (h:WordRow N v l w) (hk:∀ k,v.ownBlock=some k->∀ o,w.heap[k]? = some o->w'.heap[k]? = some o):WordRow N v l w':=by
 refine ⟨h.1,?_⟩
 rcases h.2 with hn | ⟨g,cap,cur,rfl,hb,hg,rest⟩
 ·exact .inl hn
 ·exact .inr ⟨g,cap,cur,rfl,hb,hk g rfl _ hg,rest⟩
theorem WordRow.ext {N:Nat} {v:Value} {l:List Nat} {w w':World} (h:WordRow N v l w) (hx:Ext w w'):WordRow N v l w' :=
 h.keep fun k _ _ ho=>(hx.block k (Array.getElem?_eq_some_iff.1 ho).1).trans ho
theorem WordRow.grown {N:Nat} {v:Value} {l:List Nat} {w w':World} {R:Option Nat} (h:WordRow N v l w) (hg:w.grownBy w' R) (hR:∀ k,v.ownBlock=some k->some k≠R):WordRow N v l w' :=
 h.keep fun k hk _ ho=>(hg.block k (Array.getElem?_eq_some_iff.1 ho).1 (hR k hk)).trans ho
theorem WordRow.less {N M:Nat} {v:Value} {l:List Nat} {w:World} (h:WordRow N v l w) (hM:M<=N):WordRow M v l w:=by
 refine ⟨h.1,?_⟩
 rcases h.2 with hn | ⟨g,cap,cur,rfl,hb,rest⟩
 ·exact .inl hn
 ·exact .inr ⟨g,cap,cur,rfl,Nat.le_trans hM hb,rest⟩
theorem flatW1 (l:List Nat):(l.map fun x=>[W64 x]).flatten=l.map (W64):=by
 induction l with
 | nil=>rfl
 | cons x l ih=>simp only [List.map_cons,List.flatten_cons,ih];rfl
theorem WordRow.cells {N:Nat} {v:Value} {l:List Nat} {w:World} (h:WordRow N v l w):Us w v l:=by
 rcases h.2 with ⟨rfl,h0⟩ | ⟨g,cap,cur,rfl,hb,hg,hnc,hcm,hcs,htake⟩
 ·obtain rfl:l=[]:=List.eq_nil_of_length_eq_zero h0
  exact Sl.nil _ _
 ·refine ⟨g,0,⟨_,cap,rfl,hnc,hcm,fun _=>rfl⟩,rows_flat (f:=fun x=>[W64 x]) (fun _=>rfl) l 0 ?_⟩
  have:=flat_own (N:=N) (cap:=cap) (size:=1) hg htake
  rw [flatW1];exact this
theorem WordRow.ne {N B:Nat} {v:Value} {cs:Array Value} {T:TypeId} {l:List Nat} {w:World} (h:WordRow N v l w) (hb:Blk w B cs T) (hT:(T==28)=false) {k:Nat} (hk:v.ownBlock=some k):k≠B:=by
 rintro rfl
 obtain ⟨-,cur,hcur⟩:=h.at hk
 have h2:w.heap[k]? = some (.cells cs T (0,0)):=hb
 rw [hcur] at h2
 injection h2 with h2
 injection h2 with _ h2
 subst h2
 exact absurd hT (by decide)
theorem run_appWI {w:World} {N:Nat} {v:Value} {l:List Nat} (hown:WordRow N v l w) {ty:TypeId} {ad:Addr} {m c:Nat} (hm:v=.slice none 0 0->0<m) {news:List Nat} (hl:news.length=m)
  (hnews:∀ j u,(news.map (W64))[j]? = some u->w.cell? (ad.add j)=some u) (hn:l.length+m<=1099511627776) (hbase:N<=w.heap.size) :
  ∃ g cap w',(Builtin.append_ #[27,27] ty #[v,.slice (some ad) m c]).run Tryz.prog w=.ok (.slice (some ⟨g,0,none⟩) (l.length+m) cap) w'/\WordRow N (.slice (some ⟨g,0,none⟩) (l.length+m) cap) (l++news) w'/\w.grownBy w' v.ownBlock:=by
 obtain ⟨ht,hinfo,hsz,hby⟩:=appWord
 cases hi:Tryz.prog.info? 28 with
 | none=>simp [hi] at hinfo
 | some i =>
  simp only [hi,Option.map_some,Option.some.injEq,Prod.mk.injEq] at hinfo
  obtain ⟨hz0,hs,hb⟩:=hinfo
  cases hz:i.zero with
  | none=>simp [hz] at hz0
  | some z =>
   simp only [hz,Option.map_some,Option.some.injEq] at hz0
   have h1':∀ u∈news.map (W64),u.oneCell'=true:=by
    intro u hu
    obtain ⟨x,-,rfl⟩:=List.mem_map.1 hu
    rfl
   obtain ⟨v',w',hr,h2,h3,h4⟩:=run_append_own (P:=Tryz.prog) w N 27 ty 28 i z 1 8 ht hi hz hs hb hz0 (by decide) v l.length _ hown ad m c (news.map (W64)) (by simp [hl]) hnews h1' (by simp only [maxLen];omega) (by omega) hbase
   have h5:WordRow N v' (l++news) w':=by unfold WordRow;rw [List.length_append,hl,List.map_append];exact h2
   rcases h2.2 with ⟨rfl,h0⟩ | ⟨g,cap,cur,rfl,-⟩
   ·have:=h4.1 rfl
    exact absurd (hm this.1) (by omega)
   ·exact ⟨g,cap,w',hr,h5,h3⟩
theorem run_appW {w:World} {N:Nat} {v:Value} {l:List Nat} (hown:WordRow N v l w) {ty:TypeId} {x:Value} {news:List Nat} (hx:Us w x news) (hn:l.length+news.length<=1099511627776) (hbase:N<=w.heap.size) :
  ∃ v' w',(Builtin.append_ #[27,27] ty #[v,x]).run Tryz.prog w=.ok v' w'/\WordRow N v' (l++news) w'/\w.grownBy w' v.ownBlock:=by
 obtain ⟨a,b,o,cap,rfl,hc1,hc2,ha,hr⟩:=hx.open
 by_cases h0:0<news.length
 ·obtain rfl:=ha h0
  obtain ⟨g,cap',w',h1,h2,h3⟩:=run_appWI (ty:=ty) (c:=cap) (m:=news.length) hown (fun _=>h0) rfl (ad:=⟨b,o,none⟩) (news:=news) (fun j u hj=>by
   rw [List.getElem?_map] at hj
   cases hq:news[j]? with
   | none=>rw [hq] at hj;cases hj
   | some y =>
    rw [hq] at hj
    have hadd:(⟨b,o,none⟩:Addr).add j=⟨b,o+j,none⟩:=by unfold Addr.add;split<;>simp_all
    rw [hadd]
    have:=(hr.get hq) 0 _ rfl
    simp only [Nat.mul_one,Nat.add_zero] at this
    rw [this]
    exact hj) hn hbase
  exact ⟨_,w',h1,h2,h3⟩
 ·obtain rfl:news=[]:=List.eq_nil_of_length_eq_zero (by omega)
  obtain ⟨ht,hinfo,hsz,hby⟩:=appWord
  cases hi:Tryz.prog.info? 28 with
  | none=>simp [hi] at hinfo
  | some i =>
   have hsrc:Src Tryz.prog i.size 27 (.slice a 0 cap) 0 [] w:=by
    cases a with
    | none=>exact Src.ofNil w ht cap
    | some a=>exact Src.ofSlice w ht a 0 cap [] (by simp) (by intro j u hj;simp at hj) (by simp)
   obtain ⟨av,cv,hv,-⟩:=hown.open
   have hle:l.length<=cv:=by
    rcases hown.2 with ⟨e,h0⟩ | ⟨g,c2,cur,e,hb,hg,hnc,-⟩
    ·rw [hv] at e;injection e with _ e2 e3;omega
    ·rw [hv] at e;injection e with _ e2 e3;omega
   refine ⟨v,w,?_,by rw [List.append_nil];exact hown,⟨rfl,rfl,rfl,Nat.le_refl _,fun _ _ _=>rfl⟩⟩
   rw [hv]
   exact run_append_nothing w 27 27 ty 28 i ht hi av l.length cv hle _ hsrc
theorem wpList_appW {ops:Array Oper} {rest:List Oper} {o:Oper} {a:Act} {w:World} {Q:Exit->Act->World->Prop} (hw:Region.wanted o (yielded ops a.tmps)=true) (s x:Operand)
  (ho:o.op=.call { callee:=.builtin .append,args:=#[s,x],argTypes:=#[27,27] }) {N:Nat} {v:Value} {l:List Nat} (hs:a.eval s=v) (hown:WordRow N v l w)
  {xv:Value} (hx:a.eval x=xv) {news:List Nat} (hnews:Us w xv news) (hn:l.length+news.length<=1099511627776) (hbase:N<=w.heap.size)
  (h:∀ v' w',WordRow N v' (l++news) w'->w.grownBy w' v.ownBlock->wpList Tryz.prog ops Q rest (a.put o.dst v') w') :
  wpList Tryz.prog ops Q (o::rest) a w :=
 BigFrame.wpList_want hw fun _ hK=>by
  obtain ⟨v',w',hr,h2,h3⟩:=run_appW (ty:=o.type) hown hnews hn hbase
  unfold Oper.wp execOp
  simp only [ho,resolve,invoke,builtin,Sem.run_bind,Sem.run_pure,Result.andThen_ok,List.map_toArray,List.map_cons,List.map_nil,hs,hx]
  rw [hr]
  exact hK _ _ (h v' w' h2 h3)
theorem WordRow.open1 {N:Nat} {v:Value} {l:List Nat} {w:World} (h:WordRow N v l w) (hl:0<l.length):∃ g cap,v=.slice (some ⟨g,0,none⟩) l.length cap/\N<=g/\∀ i x,l[i]? = some x->w.cell? ⟨g,i,none⟩=some (W64 x):=by
 rcases h.2 with ⟨rfl,h0⟩ | ⟨g,cap,cur,rfl,hb,hg,hnc,hcm,hcs,htake⟩
 ·omega
 ·refine ⟨g,cap,rfl,hb,fun i x hx=>?_⟩
  have:=flat_own (N:=N) (cap:=cap) (size:=1) hg htake i (W64 x) (by simp [hx])
  rwa [Nat.zero_add] at this
theorem WordRow.ofBlk {N g:Nat} {l:List Nat} {w:World} (h:Blk w g (l.map (W64)).toArray 28) (hN:N<=g) (hm:l.length<=9223372036854775807):WordRow N (.slice (some ⟨g,0,none⟩) l.length l.length) l w :=
 ⟨by simp,.inr ⟨g,l.length,_,rfl,hN,h,Nat.le_refl _,by simpa [maxLen] using hm,by simp,by rw [Nat.mul_one];exact List.take_of_length_le (by simp)⟩⟩
theorem WordRow.set {N g cap:Nat} {n:Nat} {l:List Nat} {w:World} (h:WordRow N (.slice (some ⟨g,0,none⟩) n cap) l w) (j:Nat) (hj:j<l.length) (x:Nat) :
  WordRow N (.slice (some ⟨g,0,none⟩) n cap) (l.set j x) (w.setCell ⟨g,j,none⟩ (W64 x)):=by
 rcases h.2 with ⟨e,h0⟩ | ⟨g',cap',cur,e,hb,hg,hnc,hcm,hcs,htake⟩
 ·cases e
 ·injection e with e1 e2 e3
  injection e1 with e1
  injection e1 with e1
  subst e1 e2 e3
  have hB:Blk w g cur 28:=hg
  refine ⟨by simp,.inr ⟨g,cap,cur.setIfInBounds j (W64 x),by rw [List.length_set],hb,hB.set j (W64 x),by rw [List.length_set];exact hnc,hcm,by rw [Array.size_setIfInBounds];exact hcs,?_⟩⟩
  rw [List.length_set,Array.toList_setIfInBounds,List.map_set,<-htake,List.take_set]
theorem WordRow.bs0 (w:World) {N:Nat} (hN:N<=w.heap.size):WordRow N (.slice (some ⟨w.heap.size,0,none⟩) 0 0) [] (w.alloc (.cells #[] 28)) :=
 ⟨rfl,.inr ⟨w.heap.size,0,#[],rfl,hN,Blk.new w #[] 28,Nat.le_refl _,by decide,rfl,rfl⟩⟩
theorem WordRow.made {w:World} {N n:Nat} {x:Nat} (hN:N<=w.heap.size) (hn:n<=9223372036854775807):WordRow N (.slice (some ⟨w.heap.size,0,none⟩) n n) (List.replicate n x) (w.alloc (.cells (List.replicate n (W64 x)).toArray 28)):=by
 have:=WordRow.ofBlk (N:=N) (l:=List.replicate n x) (g:=w.heap.size) (w:=w.alloc (.cells (List.replicate n (W64 x)).toArray 28)) (by rw [List.map_replicate];exact Blk.new _ _ _) hN (by simpa using hn)
 simpa using this
abbrev plCells (sv pv cv wasv nv:Value) (ck:Bool):List Value:=[sv,pv,cv,wasv,nv,.bool ck]
theorem plVal_calls (d:Flat) (hok:d.ok) (hc:checkM d=0) (sv pv cv wasv nv:Value) (was v:List Nat) (ck:Bool) (P:Nat) (e:E) (cs:List Value) (w:World) (hF:FlatV w (.agg #[sv,pv,cv]) d) (hw:Us w wasv was) (hn:Us w nv v) (hvw:Val2 d.signals was) (hvv:Val2 d.signals v)
  (hB:Blk w P (plCells sv pv cv wasv nv ck).toArray 65) (hV:VE w cs e) (hws:WS d.signals e/\e.wf/\nodes e<=65536/\deep e<=64) :
  Calls Tryz.prog 92 #[.pointer (some ⟨P,0,none⟩),.agg cs.toArray] w fun r w'=>r=.returned (.int .u64 ((evM (if ck then was else v) e:Nat):Int))/\Ext w w':=by
 have hls:∀ x∈d.signals,x.w<=64:=fun x hx=>(checkM_w hc x hx).2
 have H1:=Jh (fun W (h:Ext w W)=>Eval_calls d _ was wasv e cs W (hF.ext h) hok (hw.ext h) (val2_us64 hls hvw) (hV.ext h) hws.2.1 (by omega))
 have H2:=Jh (fun W (h:Ext w W)=>Eval_calls d _ v nv e cs W (hF.ext h) hok (hn.ext h) (val2_us64 hls hvv) (hV.ext h) hws.2.1 (by omega))
 rw [evalM_of hc hvw hws.1 hws.2.2.1 hws.2.2.2] at H1
 rw [evalM_of hc hvv hws.1 hws.2.2.1 hws.2.2.2] at H2
 have h8:cs.length=8:=by obtain ⟨s,rfl,-⟩:=hV;rfl
 have hX:=ext_alloc w (.cells cs.toArray 31)
 have hE:=Blk.new w cs.toArray 31
 have hP:=hB.ext hX
 have hs3:=hF
 obtain ⟨s',p',c',he,-⟩:=hs3
 clear hF hw hn hvw hvv hV hws hls hok hc hB he
 obtain ⟨r1,hr1⟩:∃ r,evM was e=r:=⟨_,rfl⟩
 obtain ⟨r2,hr2⟩:∃ r,evM v e=r:=⟨_,rfl⟩
 obtain ⟨rr,hrr⟩:∃ r,evM (if ck then was else v) e=r:=⟨_,rfl⟩
 rw [hr1] at H1
 rw [hr2] at H2
 rw [hrr]
 have HRR:=Jh hrr
 have HR1:=Jh hr1
 have HR2:=Jh hr2
 clear hrr hr1 hr2
 go_enter Tryz.func92,Tryz.ntmps92
 go_upto_region 1 with fail
 generalize w.alloc _=w0 at *
 have HX:=Jh hX
 have HE:=Jh hE
 have HP:=Jh hP
 have y4:=hP.has 4 _ rfl
 have y5:=hP.has 5 _ rfl
 have y3:=hP.has 3 _ rfl
 clear hX hE hP
 cases ck
 ·go_upto_region 4 with fail
  clear y3 y4 y5
  obtain rfl:r2=rr:=by rw [<-HRR.out,<-HR2.out];rfl
  refine Jg w0 fun hH=>?_
  try simp only [J]
  (refine Jt 0 (.pointer (some ⟨P,0,none⟩)) rfl (yif_load1 rfl fun _ _=>rfl) hH ?_;try simp only [J])
  (refine Jt 1 (.pointer (some ⟨P,0,none⟩)) rfl (yif_load1 rfl (by intro W hW;clear hW;go_simp)) hH ?_;try simp only [J])
  (refine Jt 2 (.pointer (some ⟨P,0,none⟩)) rfl (yif_load1 rfl (by intro W hW;clear hW;go_simp)) hH ?_;try simp only [J])
  (refine Jt 3 (.agg [sv,pv,cv].toArray) rfl (yif_load rfl 26 _ rfl rfl (fun W hW=>fun j u hj=>(HP.out.ext hW).has j u (by match j,hj with | 0,hj=>exact hj | 1,hj=>exact hj | 2,hj=>exact hj | j+3,hj=>exact absurd hj (by simp))) agg_Flat rfl) hH ?_;try simp only [J])
  (refine Jt 4 (nv) rfl (yif_load1 rfl fun _ _=>rfl) hH ?_;try simp only [J])
  (refine Jt 5 (.agg cs.toArray) rfl (yif_load rfl 31 _ rfl rfl (fun W hW=>(HE.out.ext hW).has) agg_E h8) hH ?_;try simp only [J])
  (refine Jr 6 rfl fun K hK=>?_)
  go_simp
  refine (H2.out _ (HX.out.trans hH)).mono ?_
  rintro r w3 ⟨rfl,hx3⟩
  refine hK.out _ _ (hH.trans hx3) (fun hH=>?_)
  clear hK K
  try simp only [J]
  (refine Jt 7 (.tuple #[.int .u64 ((r2:Nat):Int),.int .i64 0]) rfl (yif_load1 rfl fun _ _=>rfl) hH ?_;try simp only [J])
  (refine Jt 8 (.int .u64 ((r2:Nat):Int)) rfl (yif_load1 rfl (by intro W hW;clear hW;go_simp)) hH ?_;try simp only [J])
  (refine Jt 9 (.int .i64 0) rfl (yif_load1 rfl (by intro W hW;clear hW;go_simp)) hH ?_;try simp only [J])
  (refine Jt 10 (.int .u64 ((r2:Nat):Int)) rfl (yif_load1 rfl fun _ _=>rfl) hH ?_;try simp only [J])
  (refine Jt 11 (.int .i64 0) rfl (yif_load1 rfl fun _ _=>rfl) hH ?_;try simp only [J])
  refine Jz ?_
  go_wp2_with fail
  go_ret
  exact ⟨rfl,HX.out.trans hH⟩
 ·go_upto_region 4 with fail
  clear y3 y4 y5
  obtain rfl:r1=rr:=by rw [<-HRR.out,<-HR1.out];rfl
  refine Jg w0 fun hH=>?_
  try simp only [J]
  (refine Jt 0 (.pointer (some ⟨P,0,none⟩)) rfl (yif_load1 rfl fun _ _=>rfl) hH ?_;try simp only [J])
  (refine Jt 1 (.pointer (some ⟨P,0,none⟩)) rfl (yif_load1 rfl (by intro W hW;clear hW;go_simp)) hH ?_;try simp only [J])
  (refine Jt 2 (.pointer (some ⟨P,0,none⟩)) rfl (yif_load1 rfl (by intro W hW;clear hW;go_simp)) hH ?_;try simp only [J])
  (refine Jt 3 (.agg [sv,pv,cv].toArray) rfl (yif_load rfl 26 _ rfl rfl (fun W hW=>fun j u hj=>(HP.out.ext hW).has j u (by match j,hj with | 0,hj=>exact hj | 1,hj=>exact hj | 2,hj=>exact hj | j+3,hj=>exact absurd hj (by simp))) agg_Flat rfl) hH ?_;try simp only [J])
  (refine Jt 4 (wasv) rfl (yif_load1 rfl fun _ _=>rfl) hH ?_;try simp only [J])
  (refine Jt 5 (.agg cs.toArray) rfl (yif_load rfl 31 _ rfl rfl (fun W hW=>(HE.out.ext hW).has) agg_E h8) hH ?_;try simp only [J])
  (refine Jr 6 rfl fun K hK=>?_)
  go_simp
  refine (H1.out _ (HX.out.trans hH)).mono ?_
  rintro r w3 ⟨rfl,hx3⟩
  refine hK.out _ _ (hH.trans hx3) (fun hH=>?_)
  clear hK K
  try simp only [J]
  (refine Jt 7 (.tuple #[.int .u64 ((r1:Nat):Int),.int .i64 0]) rfl (yif_load1 rfl fun _ _=>rfl) hH ?_;try simp only [J])
  (refine Jt 8 (.int .u64 ((r1:Nat):Int)) rfl (yif_load1 rfl (by intro W hW;clear hW;go_simp)) hH ?_;try simp only [J])
  (refine Jt 9 (.int .i64 0) rfl (yif_load1 rfl (by intro W hW;clear hW;go_simp)) hH ?_;try simp only [J])
  (refine Jt 10 (.int .u64 ((r1:Nat):Int)) rfl (yif_load1 rfl fun _ _=>rfl) hH ?_;try simp only [J])
  (refine Jt 11 (.int .i64 0) rfl (yif_load1 rfl fun _ _=>rfl) hH ?_;try simp only [J])
  refine Jz ?_
  go_wp2_with fail
  go_ret
  exact ⟨rfl,HX.out.trans hH⟩
/-! what CaseT looks for -/
theorem plOne11_calls (B:Nat) (x:Int) (e:E) (cs:List Value) (w:World) (hB:Blk w B #[.int .u64 x] 28) (hV:VE w cs e) :
  Calls Tryz.prog 96 #[.agg cs.toArray,.pointer (some ⟨B,0,none⟩)] w fun r w'=>r=.returned (.bool (decide (e.v=x)))/\Ext w w':=by
 obtain ⟨s,rfl,-⟩:=hV
 have hX:=ext_alloc w (.cells (e.cells s).toArray 31)
 have y2:=(Blk.new w (e.cells s).toArray 31).has 2 _ rfl
 have yx:=(hB.ext hX).has 0 _ rfl
 have hlt:=hB.lt
 clear hB
 go_enter Tryz.func96,Tryz.ntmps96
 go_upto_region 1 with fail
 generalize w.alloc _=w0 at *
 go_wp2_with fail
 go_ret
 exact ⟨ret_bool (by rfl),hX⟩
theorem leads_plOne11:Leads Tryz.prog 96:=leads_of Tryz.func96 (by kernel_rfl) rfl
theorem plOne1_calls (B:Nat) (x:Int) (t:T) (cs:List Value) (w:World) (hB:Blk w B #[.int .u64 x] 28) (hV:VT w cs t) :
  Calls Tryz.prog 94 #[.agg cs.toArray,.pointer (some ⟨B,0,none⟩)] w fun r w'=>r=.returned (.bool (t.e.any fun e=>decide (e.v=x)))/\Ext w w':=by
 obtain ⟨s,s',rfl,hE,-⟩:=hV
 have hX:=ext_alloc w (.cells (t.cells s s').toArray 39)
 have y4:=(Blk.new w (t.cells s s').toArray 39).has 4 _ rfl
 have HC:=Jh (fun W (h:Ext w W)=>ContainsFunc_E 96 #[.pointer (some ⟨B,0,none⟩)] (fun e=>decide (e.v=x)) t.e s W (hE.ext h) leads_plOne11 (fun wr hwr k hk cs hcs=>plOne11_calls B x _ cs wr (hB.ext (h.trans hwr)) hcs))
 obtain ⟨a,b,ob,cap,rfl,-,-,-,-⟩:=hE.open
 clear hB hE
 generalize (t.e.any fun e=>decide (e.v=x))=q at *
 go_enter Tryz.func94,Tryz.ntmps94
 go_upto_region 1 with fail
 generalize w.alloc _=w0 at *
 go_wp2_with (first | (go_at_call 95;refine (HC.out _ hX).mono ?_;rintro r w1 ⟨rfl,hx1⟩))
 go_ret
 exact ⟨rfl,hX.trans hx1⟩
theorem leads_plOne1:Leads Tryz.prog 94:=leads_of Tryz.func94 (by kernel_rfl) rfl
theorem plArm_calls (B:Nat) (x:Int) (l:List T) (sl:Value) (w:World) (hB:Blk w B #[.int .u64 x] 28) (hL:Ts w sl l) :
  Calls Tryz.prog 93 #[sl,.func (.func 94) #[] #[.pointer (some ⟨B,0,none⟩)]] w fun r w'=>r=.returned (.int .i64 (idxOf (fun a:T=>a.e.any fun e=>decide (e.v=x)) l))/\Ext w w' :=
 IndexFunc_T _ _ _ l sl w hL leads_plOne1 (fun wr hwr k hk cs hcs=>plOne1_calls B x _ cs wr (hB.ext hwr) hcs)
theorem Blk.grownR {w w':World} {B:Nat} {cs:Array Value} {T:TypeId} {R:Option Nat} (h:Blk w B cs T) (hg:w.grownBy w' R) (hne:∀ k,R=some k->k≠B):Blk w' B cs T :=
 (hg.block B h.lt (fun e=>hne B e.symm rfl)).trans h
theorem gbR_refl (w:World) (R:Option Nat):w.grownBy w R:=⟨rfl,rfl,rfl,Nat.le_refl _,fun _ _ _=>rfl⟩
theorem gbR_ext {w w':World} (h:Ext w w') (R:Option Nat):w.grownBy w' R:=⟨h.os,h.tape,h.output,h.size,fun k hk _=>h.block k hk⟩
theorem gbR_trans {a b c:World} {R:Option Nat} (h:a.grownBy b R) (k:b.grownBy c R):a.grownBy c R :=
 ⟨k.os.trans h.os,k.tape.trans h.tape,k.output.trans h.output,Nat.le_trans h.size k.size,fun j hj hne=>(k.block j (Nat.lt_of_lt_of_le hj h.size) hne).trans (h.block j hj hne)⟩
structure Pl (d:Flat) (sv pv cv wasv:Value) (was:List Nat) (wb:World):Prop where
 ok:d.ok
 hc:checkM d=0
 flat:FlatV wb (.agg #[sv,pv,cv]) d
 us:Us wb wasv was
 vw:Val2 d.signals was
structure PlW (d:Flat) (sv pv cv wasv nv:Value) (ck:Bool) (P:Nat) (wb:World) (v:List Nat) (w:World):Prop where
 ext:Ext wb w
 val:Val2 d.signals v
 row:WordRow wb.heap.size nv v w
 blk:Blk w P (plCells sv pv cv wasv nv ck).toArray 65
abbrev PlPost (nv:Value) (wb:World) (v:List Nat) (w:World) (r:Ending) (w':World):Prop:=r=.returned (.tuple #[])/\WordRow wb.heap.size nv v w'/\w.grownBy w' nv.ownBlock
section
variable {d:Flat} {sv pv cv wasv nv:Value} {was v:List Nat} {ck:Bool} {P:Nat} {wb w w':World}
theorem PlW.grown {v':List Nat} (h:PlW d sv pv cv wasv nv ck P wb v w) (hv:Val2 d.signals v') (hr:WordRow wb.heap.size nv v' w') (hg:w.grownBy w' nv.ownBlock):PlW d sv pv cv wasv nv ck P wb v' w' :=
 ⟨Below.grown h.ext hg h.ext.size (fun k hk=>(hr.at hk).1),hv,hr,h.blk.grownR hg (fun k hk=>h.row.ne h.blk (by decide) hk)⟩
theorem PlW.ext' (h:PlW d sv pv cv wasv nv ck P wb v w) (hx:Ext w w'):PlW d sv pv cv wasv nv ck P wb v w' :=
 ⟨h.ext.trans hx,h.val,h.row.ext hx,h.blk.ext hx⟩
theorem plVal (H:Pl d sv pv cv wasv was wb) (h:PlW d sv pv cv wasv nv ck P wb v w) (e:E) (cs:List Value) (hV:VE w cs e) (hws:WS d.signals e/\e.wf/\nodes e<=65536/\deep e<=64) :
  Calls Tryz.prog 92 #[.pointer (some ⟨P,0,none⟩),.agg cs.toArray] w fun r w'=>r=.returned (.int .u64 ((evM (if ck then was else v) e:Nat):Int))/\Ext w w' :=
 plVal_calls d H.ok H.hc sv pv cv wasv nv was v ck P e cs w (H.flat.ext h.ext) (H.us.ext h.ext) h.row.cells H.vw h.val h.blk hV hws
end
def PlSaid (d:Flat) (sv pv cv wasv nv:Value) (was:List Nat) (ck:Bool) (P:Nat) (wb:World) (t:T):Prop :=
 ∀ (v:List Nat) (cs:List Value) (w:World),PlW d sv pv cv wasv nv ck P wb v w->VT wb cs t->Calls Tryz.prog 56 #[.pointer (some ⟨P,0,none⟩),.agg cs.toArray] w (PlPost nv wb (oneM ck was t v) w)
def PlAll (d:Flat) (sv pv cv wasv nv:Value) (was:List Nat) (ck:Bool) (P:Nat) (wb:World) (l:List T):Prop :=
 ∀ (v:List Nat) (sl:Value) (w:World),PlW d sv pv cv wasv nv ck P wb v w->Ts wb sl l->Calls Tryz.prog 24 #[.pointer (some ⟨P,0,none⟩),sl] w (PlPost nv wb (allM ck was l v) w)
theorem plAll_of {d:Flat} {sv pv cv wasv nv:Value} {was:List Nat} {ck:Bool} {P:Nat} {wb:World} (H:Pl d sv pv cv wasv was wb) (l:List T) (hln:l.length<=1048576) (hl:∀ t∈l,PlSaid d sv pv cv wasv nv was ck P wb t/\RunOk d.signals ck t):PlAll d sv pv cv wasv nv was ck P wb l:=by
 intro v sl w hW hL
 have hls:∀ x∈d.signals,x.w<=64:=fun x hx=>(checkM_w H.hc x hx).2
 obtain ⟨pre,hpre0,hpreS,hpreL⟩:∃ pre:Nat->List Nat,pre 0=v/\(∀ k (hk:k<l.length),pre (k+1)=oneM ck was l[k] (pre k))/\pre l.length=allM ck was l v :=
  ⟨fun k=>allM ck was (l.take k) v,by simp only [List.take_zero];exact allM_nil _ _ _,fun k hk=>by simp only [take_snoc _ _ hk,allM_append,allM_cons,allM_nil],by simp only [List.take_length]⟩
 have HS:=Jh hpreS
 have HLL:=Jh hpreL
 have HPL:=Jh hl
 have HV:=Jh (show ∀ k (hk:k<l.length) u,Val2 d.signals u->Val2 d.signals (oneM ck was l[k] u) from fun k hk u hu=>(oneM_ok hls H.vw l[k] (hl _ (List.getElem_mem hk)).2).1 u hu)
 have HTS:=Jh (fun W (h:Ext wb W)=>hL.ext h)
 obtain ⟨a,b,o,cap,rfl,hc1,hc2,ha,hr⟩:=hL.open
 have HA:=Jh ha
 have HR:=Jh hr
 have HW:=Jh hW
 have H0:=Jh hpre0
 clear hL ha hr hW hl hpre0 hpreS hpreL hls
 go_enter Tryz.func24,Tryz.ntmps24
 go_wp2_with fail
 go_loopw [8] (fun i wr=>∃ k:Nat,k<=l.length/\i=.int .i64 k/\PlW d sv pv cv wasv nv ck P wb (pre k) wr/\w.grownBy wr nv.ownBlock) (fun i _=>l.length-(intOf i).toNat)
 case atStart=>exact ⟨0,Nat.zero_le _,rfl,by rw [H0.out];exact HW.out,gbR_refl _ _⟩
 case round =>
  obtain ⟨k,hk,rfl,hw1,hgr⟩:=hrel
  have HW1:=Jh hw1
  have HGR:=Jh hgr
  clear hw1 hgr
  by_cases hlt:k<l.length
  ·obtain rfl:=HA.out (by omega)
   have hsaid:=(HPL.out _ (List.getElem_mem hlt)).1
   have hval:=HV.out k hlt _ HW1.out.val
   have hstep:=HS.out k hlt
   obtain ⟨s1,s2,hhas,he,ht⟩:=Ts.get HR.out hlt
   rw [<-hstep] at hval
   generalize l[k]=t at *
   have HVAL:=Jh hval
   have HST:=Jh hstep
   have HVT:=Jh (show VT wb (t.cells s1 s2) t from ⟨s1,s2,rfl,he,ht⟩)
   have HH1:=Jh (hhas.ext HW1.out.ext)
   have HSD:=Jh hsaid
   have HE1:=he.one
   have HT2:=ht.one
   clear hsaid hval hstep hhas he ht
   have hx4:=ext_alloc wr (.cells (t.cells s1 s2).toArray 39)
   have hb4:=Blk.new wr (t.cells s1 s2).toArray 39
   have HX4:=Jh hx4
   have HB4:=Jh hb4
   clear hx4 hb4
   go_upto_region 3 with (first | ((with_reducible show Jl 39);refine Jm 39 (HH1.out) agg_T rfl ?_) | ((with_reducible show Js 39);refine wpList_store_new rfl 39 _ _ rfl rfl (by first | rfl | simp) rfl agg_T (rfl) rfl (by simp [HE1,HT2,one_int]) ?_))
   generalize wr.alloc _=w4 at *
   have hW4:=HW1.out.ext' HX4.out
   have HC:=Jh (HSD.out _ _ _ hW4 HVT.out)
   have HG4:=Jh (gbR_trans HGR.out (gbR_ext HX4.out _))
   have HW4:=Jh hW4
   clear hW4
   go_wp2_with (first | ((with_reducible show Jl 39);refine Jm 39 (HB4.out.has) agg_T rfl ?_) | (go_at_call 56;refine (HC.out).mono ?_;rintro r w5 ⟨rfl,hr5,hg5⟩))
   go_roundw
   case rel=>exact ⟨k+1,hlt,by go_num,HW4.out.grown HVAL.out (by rw [HST.out];exact hr5) hg5,gbR_trans HG4.out hg5⟩
   case measure=>simp [intOf];omega
  ·obtain rfl:k=l.length:=by omega
   go_wp2_with fail
   all_goals go_end0
   exact ⟨rfl,by rw [<-HLL.out];exact HW1.out.row,HGR.out⟩
end Go.Proofs.YtpngepnfinbaoaaGreat
