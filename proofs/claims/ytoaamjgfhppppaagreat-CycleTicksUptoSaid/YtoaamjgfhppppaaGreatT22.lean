/- Laws and walks that a claim of this seat leans on: StmtL, StmtL2, StmtL3, TakeL, Next, Order, LookM. -/
import Derived.Test.YtoaamjgfhppppaaGreatT21
import Derived.Test.YtoaamjgfhppppaaGreatT16
import Derived.Test.YtoaamjgfhppppaaGreatT06
import Derived.Test.YtoaamjgfhppppaaGreatT14
import Derived.WalkMore
import Derived.Deep.LoopGhost
import Derived.Test.YtoaamjgfhppppaaGreatT13
import Derived.Test.YtoaamjgfhppppaaGreatT15
import Derived.Test.YtoaamjgfhppppaaGreatT00
set_option maxRecDepth 100000
set_option maxHeartbeats 8000000
set_option linter.all false
namespace Go.Proofs.YtoaamjgfhppppaaGreat
open Go.RowKit
theorem vals_ext {ls:List Signal} {r r':List Nat} (h:Val2 ls r) (h':Val2 ls r') (hag:∀ k j:Nat,k<ls.length->(j:Int)<sigW ls (k:Int)->(r.getD k 0).testBit j=(r'.getD k 0).testBit j):r=r':=by
 refine List.ext_getElem (by rw [h.1,h'.1]) fun k hk hk'=>?_
 have hks:k<ls.length:=by rw [<-h.1];exact hk
 have e1:r.getD k 0=r[k]:=by rw [List.getD_eq_getElem?_getD,List.getElem?_eq_getElem hk];rfl
 have e2:r'.getD k 0=r'[k]:=by rw [List.getD_eq_getElem?_getD,List.getElem?_eq_getElem hk'];rfl
 rw [<-e1,<-e2]
 refine Nat.eq_of_testBit_eq fun j=>?_
 by_cases hj:(j:Int)<sigW ls (k:Int)
 ·exact hag k j hks hj
 ·rw [vals_high h.2 hks hj,vals_high h'.2 hks hj]
def clkD (d:Flat) (p:Int):Bool:=(d.procs[p.toNat]?.map (·.clocked)).getD false
def runL (d:Flat) (p:Int) (v:List Nat):List Nat:=allM (clkD d p) v (procL d p) v
theorem runM_eq (d:Flat) (vs:List Nat) (p:Int):runM d vs p=if valsOk d vs=true/\0<=p/\p<d.procs.length then (runL d p vs,0) else ([],1):=rfl
theorem procL_ok {d:Flat} (hok:d.ok) (hc:checkM d=0) {p:Int} (h0:0<=p) (h1:p<d.procs.length):∀ t∈procL d p,RunOk d.signals (clkD d p) t:=by
 have hk:p.toNat<d.procs.length:=by omega
 unfold procL clkD
 rw [List.getElem?_eq_getElem hk]
 exact runOk_check hok hc _ (List.getElem_mem hk)
theorem run_two {d:Flat} (hok:d.ok) (hc:checkM d=0) {p:Int} (h0:0<=p) (h1:p<d.procs.length) {v v':List Nat} (hv:Val2 d.signals v) (hv':Val2 d.signals v') (hag:Ag d.signals v v' (RdL d.signals (procL d p))) :
  Two d.signals v v' (runL d p v) (runL d p v') (·∈alwM (offsM d.signals d.signals.length) (procL d p)) (WrL d.signals (procL d p)) :=
 allM_two (checkM_w hc) hv hv' (P:=RdL d.signals (procL d p)) (fun _=>hag) _ (procL_ok hok hc h0 h1) (fun _ h=>h) v v' hv hv' fun _=>hag
theorem run_kept {d:Flat} (hok:d.ok) (hc:checkM d=0) {p:Int} (h0:0<=p) (h1:p<d.procs.length) {v:List Nat} (hv:Val2 d.signals v):Val2 d.signals (runL d p v)/\Ag d.signals v (runL d p v) (fun x=>¬ WrL d.signals (procL d p) x):=by
 obtain ⟨ok,W,-,a2,-,a4,-⟩:=run_two hok hc h0 h1 hv hv (Ag.refl _ _ _)
 exact ⟨ok.1,a4.mono fun x hx hw=>hx (a2 x hw)⟩
theorem mem_writesM (d:Flat) (p x:Int):x∈writesM d p↔WrL d.signals (procL d p) x:=by
 unfold writesM WrL spansW wS
 rw [mem_numbersM,List.take_length]
 constructor
 ·rintro ⟨s,hs,h⟩
  obtain ⟨u,hu,rfl⟩:=List.mem_map.1 hs
  obtain ⟨hu,ho⟩:=List.mem_filter.1 hu
  exact ⟨u,hu,by simpa using ho,(mem_numbersM _ _ _).2 ⟨ownS u,by simp,h⟩⟩
 ·rintro ⟨u,hu,ho,h⟩
  obtain ⟨s,hs,h⟩:=(mem_numbersM _ _ _).1 h
  obtain rfl:=List.mem_singleton.1 hs
  exact ⟨ownS u,List.mem_map.2 ⟨u,List.mem_filter.2 ⟨hu,by simpa using ho⟩,rfl⟩,h⟩
def whereK (s:List Int) (n:Int):Nat->Nat
 | 0=>0
 | i+1=>if s.getD i 0<=n then i else whereK s n i
theorem bn_of {ls:List Signal} (hls:∀ x∈ls,1<=x.w/\x.w<=64) {n:Int} (h0:0<=n):∀ m,m<=ls.length->n<sumW ls m->∃ k j:Nat,k<m/\(j:Int)<sigW ls (k:Int)/\n=bn ls k j:=by
 intro m
 induction m with
 | zero=>intro _ h;exfalso;have:sumW ls 0=0:=rfl;omega
 | succ m ih =>
  intro hm h
  by_cases c:n<sumW ls m
  ·obtain ⟨k,j,hk,hj,e⟩:=ih (by omega) c
   exact ⟨k,j,by omega,hj,e⟩
  ·have hs:sigW ls (m:Int)=ls[m].w:=by simp [sigW,List.getElem?_eq_getElem (show m<ls.length by omega)]
   have h3:=sumW_succ ls m (by omega)
   exact ⟨m,(n-sumW ls m).toNat,by omega,by omega,by unfold bn;omega⟩
def bitN11 (ls:List Signal) (v:List Nat) (n:Int):Nat:=(v.getD (whereK (offsM ls ls.length) n ls.length) 0) / 2^(n-sumW ls (whereK (offsM ls ls.length) n ls.length)).toNat%2
theorem take_bit (a b m i:Nat) (ha:a<2^64) (hm:m<64):((a &&& (2^64-(2^m+1))) ||| (b &&& 2^m)).testBit i=if i=m then b.testBit i else a.testBit i:=by
 have h2:(2:Nat)^m<2^64:=Nat.pow_lt_pow_right (by decide) hm
 rw [Nat.testBit_or,Nat.testBit_and,Nat.testBit_and,Nat.testBit_two_pow_sub_succ h2,Nat.testBit_two_pow]
 by_cases e:i=m
 ·subst e;simp
 ·rw [if_neg e]
  have e':¬ m=i:=fun h=>e h.symm
  by_cases h3:i<64
  ·simp [e',h3]
  ·have:a.testBit i=false:=Nat.testBit_lt_two_pow (Nat.lt_of_lt_of_le ha (Nat.pow_le_pow_right (by decide) (by omega)))
   simp [e',this]
theorem u_wrapn {n:Nat} (h:n<18446744073709551616):IntKind.u64.wrap (n:Int)=n:=by obtain ⟨x,rfl⟩:=u_nat h;exact u_wrap x
theorem n_andNot {a b:Nat} (ha:a<18446744073709551616) (hb:b<18446744073709551616):bits .andNot .u64 (a:Int) (b:Int)=((a &&& (2^64-(b+1)):Nat):Int):=by
 obtain ⟨x,rfl⟩:=u_nat ha
 obtain ⟨y,rfl⟩:=u_nat hb
 rw [u_andNot,BitVec.toNat_and,BitVec.toNat_not,show (2:Nat)^64-(y.toNat+1)=2^64-1-y.toNat by omega]
theorem one_shl {j M:Nat} (hj:j<64) (hM:2^j=M):IntKind.u64.wrap (2^j:Int)=(M:Int):=by
 have h2:(2:Nat)^j<18446744073709551616:=by
  have:(2:Nat)^j<2^64:=Nat.pow_lt_pow_right (by decide) hj
  omega
 rw [<-hM,<-u_wrapn h2];push_cast;rfl
def takeW (a b j:Nat):Nat:=(a &&& (2^64-(2^j+1))) ||| (b &&& 2^j)
theorem takeW_op {a b j:Nat} (ha:a<18446744073709551616) (hb:b<18446744073709551616) (hj:j<64):bits .or .u64 (bits .andNot .u64 (a:Int) ((2^j:Nat):Int)) (bits .and .u64 (b:Int) ((2^j:Nat):Int))=((takeW a b j:Nat):Int):=by
 have h2:(2:Nat)^j<18446744073709551616:=by
  have:(2:Nat)^j<2^64:=Nat.pow_lt_pow_right (by decide) hj
  omega
 rw [n_andNot ha h2,n_and hb h2,n_or' (Nat.lt_of_le_of_lt Nat.and_le_left ha) (Nat.lt_of_le_of_lt Nat.and_le_left hb)]
 rfl
theorem takeV_ok {ls:List Signal} (hls:∀ x∈ls,x.w<=64) {xs v:List Nat} (hx:Val2 ls xs) (hv:Val2 ls v) {k j:Nat} (hk:k<ls.length) (hj:(j:Int)<sigW ls (k:Int)) :
  Val2 ls (xs.set k (takeW (xs.getD k 0) (v.getD k 0) j))/\∀ k' j':Nat,k'<ls.length->((xs.set k (takeW (xs.getD k 0) (v.getD k 0) j)).getD k' 0).testBit j'=if k'=k/\j'=j then (v.getD k 0).testBit j else (xs.getD k' 0).testBit j':=by
 have hw:=sigW_le ls hls (k:Int)
 have hxk:=hx.2 (k:Int) (by omega) (by omega)
 have hvk:=hv.2 (k:Int) (by omega) (by omega)
 rw [Int.toNat_natCast] at hxk hvk
 have hx64:xs.getD k 0<2^64:=Nat.lt_of_lt_of_le hxk (Nat.pow_le_pow_right (by decide) (by omega))
 have htb:=fun i=>take_bit (xs.getD k 0) (v.getD k 0) j i hx64 (by omega)
 have hget:∀ k',k'<ls.length->(xs.set k (takeW (xs.getD k 0) (v.getD k 0) j)).getD k' 0=if k'=k then takeW (xs.getD k 0) (v.getD k 0) j else xs.getD k' 0:=by
  intro k' hk'
  rw [List.getD_eq_getElem?_getD,List.getElem?_set]
  by_cases e:k=k'
  ·subst e;rw [if_pos rfl,if_pos (by rw [hx.1];exact hk),if_pos rfl];rfl
  ·rw [if_neg e,if_neg fun h=>e h.symm,<-List.getD_eq_getElem?_getD]
 refine ⟨⟨by rw [List.length_set];exact hx.1,fun sg h0 h1=>?_⟩,fun k' j' hk'=>?_⟩
 ·obtain ⟨k',rfl⟩:=Int.eq_ofNat_of_zero_le h0
  rw [Int.toNat_natCast,hget k' (by omega)]
  by_cases e:k'=k
  ·subst e
   rw [if_pos rfl]
   refine Nat.lt_pow_two_of_testBit _ fun i hi=>?_
   unfold takeW
   rw [htb i,if_neg (by omega)]
   exact Nat.testBit_lt_two_pow (Nat.lt_of_lt_of_le hxk (Nat.pow_le_pow_right (by decide) hi))
  ·rw [if_neg e];exact hx.2 (k':Int) h0 h1
 ·rw [hget k' hk']
  by_cases e:k'=k
  ·subst e
   rw [if_pos rfl]
   unfold takeW
   rw [htb j']
   by_cases e2:j'=j
   ·rw [if_pos e2,if_pos ⟨rfl,e2⟩,e2]
   ·rw [if_neg e2,if_neg fun h=>e2 h.2]
  ·rw [if_neg e,if_neg fun h=>e h.1]
/-! ### (graph).next: the least process of wires that can come -/
def clks (d:Flat):List Bool:=d.procs.map (·.clocked)
theorem nextFrom_step (g:List (List Int)) (clk come:List Bool) (n k:Nat) (h:k<n):nextFrom g clk come (n-k) k=if ready g clk come k=true then (k:Int) else nextFrom g clk come (n-(k+1)) (k+1):=by
 obtain ⟨m,hm⟩:∃ m,n-k=m+1:=⟨n-k-1,by omega⟩
 rw [hm,nextFrom,show n-(k+1)=m by omega]
theorem ready_at (G:List (List Int)) (clk come:List Bool) (k:Nat) (lk:List Int) (cb pb:Bool) (h1:come[k]? = some cb) (h2:clk[k]? = some pb) (h3:G[k]? = some lk) :
  ready G clk come k=(!cb&&!pb&&lk.all fun q=>come.getD q.toNat false):=by
 unfold ready
 rw [List.getD_eq_getElem?_getD,List.getD_eq_getElem?_getD (l:=clk),List.getD_eq_getElem?_getD (l:=G),h1,h2,h3]
 rfl
theorem next_calls (d:Flat) (v gv:Value) (G:List (List Int)) (come:List Bool) (C:Nat) (w:World) (h:FlatV w v d) (hg:IntsL w gv G) (hln:G.length=d.procs.length) (hcl:come.length=G.length)
  (hC:Blk w C (come.map Value.bool).toArray 4) (hr:∀ l∈G,l.length<=1073741824/\∀ q∈l,0<=q/\q.toNat<G.length) (hG:G.length<=1073741824) :
  Calls Tryz.prog 87 #[gv,v,.slice (some ⟨C,0,none⟩) G.length G.length] w fun r w'=>r=.returned (.int .i64 (nextM G (clks d) come))/\Ext w w':=by
 obtain ⟨sv,pv,cv,rfl,hS,hP,hCk⟩:=h
 obtain ⟨a0,b0,o0,c0,rfl,hc1,hc2,ha,hpr⟩:=hP.open
 obtain ⟨ag,bg,og,cg,rfl,hg1,hg2,hag,hgr⟩:=hg.open
 obtain ⟨n,hn⟩:∃ n,G.length=n:=⟨_,rfl⟩
 have hdn:d.procs.length=n:=by rw [<-hln,hn]
 obtain ⟨res,hres⟩:∃ res,nextM G (clks d) come=res:=⟨_,rfl⟩
 have hres0:nextFrom G (clks d) come (n-0) 0=res:=by rw [<-hres,nextM,hn];rfl
 rw [hdn] at hc1 ha ⊢
 rw [hn] at hg1 hag hcl hr hG ⊢
 rw [hres]
 have HN:=Jh hn
 have HDN:=Jh hdn
 have HX:=Jh (ext_alloc w (.cells [sv,.slice a0 n c0,cv].toArray 26))
 have HB:=Jh (Blk.new w [sv,.slice a0 n c0,cv].toArray 26)
 have HA:=Jh ha
 have HPR:=Jh hpr
 have HAG:=Jh hag
 have HGR:=Jh hgr
 have HC:=Jh hC
 have HR:=Jh hr
 have HCL:=Jh hcl
 have HRES:=Jh hres0
 have hcb:=hC.lt
 clear hS hCk hP hg ha hpr hag hgr hC hr hcl hn hdn hln hres hres0
 go_enter Tryz.func87,Tryz.ntmps87
 go_wp2_with fail
 go_step3
 go_wp2_with fail
 go_step3
 go_wp2_with fail
 generalize w.alloc _=w1 at *
 refine wp_loop (fun a wr=>∃ (k:Nat) (x7 x8 x9 x10 x14 x15 x16 x17 x18 x19 x20 x21 x22 x23 x24 x25 x26 x27 x28 x29 x30 x31 x32 x33 x34 x35 x36 x37 x38 x39 x40 x41 x42 x43:Value),a=⟨#[.slice ag n cg,.agg #[sv,.slice a0 n c0,cv],.slice (some ⟨C,0,Option.none⟩) n n,undef,.pointer (some ⟨w.heap.size,0,Option.none⟩),undef,.int .i64 0,x7,x8,x9,x10,.slice ag n cg,.int .i64 n,.int .i64 (k:Int),x14,x15,x16,x17,x18,x19,x20,x21,x22,x23,x24,x25,x26,x27,x28,x29,x30,x31,x32,x33,x34,x35,x36,x37,x38,x39,x40,x41,x42,x43],[]⟩ /\
  k<=n/\Hid (nextFrom G (clks d) come (n-k) k=res)/\wr=w1) (fun a _=>n-(intOf (a.tmps.getD 13 undef)).toNat)
  ⟨0,_,_,_,_,_,_,_,_,_,_,_,_,_,_,_,_,_,_,_,_,_,_,_,_,_,_,_,_,_,_,_,_,_,_,rfl,Nat.zero_le _,HRES,rfl⟩ ?_
 rintro a wr ⟨k,x7,x8,x9,x10,x14,x15,x16,x17,x18,x19,x20,x21,x22,x23,x24,x25,x26,x27,x28,x29,x30,x31,x32,x33,x34,x35,x36,x37,x38,x39,x40,x41,x42,x43,rfl,hk,HK,rfl⟩
 by_cases hlt:k<n
 ·obtain rfl:=HA.out (by omega)
  obtain rfl:=HAG.out (by omega)
  have hkc:k<come.length:=by rw [HCL.out];exact hlt
  have hkp:k<d.procs.length:=by rw [HDN.out];exact hlt
  have hkg:k<G.length:=by rw [HN.out];exact hlt
  obtain ⟨s1,hhas,-⟩:=Procs.get HPR.out hkp
  obtain ⟨u,he1,he2⟩:=HGR.out.get (List.getElem?_eq_getElem hkg)
  have yc:=(HC.out.ext HX.out).cell k
  rw [List.getElem?_toArray,List.getElem?_map,List.getElem?_eq_getElem hkc] at yc
  simp only [Option.map_some] at yc
  have yp:=(hhas.ext HX.out) 0 _ rfl
  have yf:=HB.out.has 1 _ rfl
  have yg:=(he1.ext HX.out) 0 _ rfl
  simp only [Nat.mul_one,Nat.add_zero,Nat.zero_add] at yg yp yf
  obtain ⟨au,bu,ou,cu,rfl,hu1,hu2,hua,hur⟩:=(he2.ext HX.out).open
  have hrk:=HR.out _ (List.getElem_mem hkg)
  have hready:=ready_at G (clks d) come k G[k] come[k] d.procs[k].clocked (List.getElem?_eq_getElem hkc) (by unfold clks;rw [List.getElem?_map,List.getElem?_eq_getElem hkp];rfl) (List.getElem?_eq_getElem hkg)
  have hstep:=nextFrom_step G (clks d) come n k hlt
  rw [hready,HK.out] at hstep
  generalize G[k]=lk at *
  generalize come[k]=cb at *
  generalize d.procs[k].clocked=pb at *
  have HSTEP:=Jh hstep
  have HUA:=Jh hua
  have HUR:=Jh hur
  have HRK:=Jh hrk.2
  have hlk:=hrk.1
  clear hready hstep he1 he2 hhas hkc hkp hkg hua hur hrk
  cases cb
  ·cases pb
   ·have hall:(if (lk.all fun q=>come.getD q.toNat false)=true then (k:Int) else nextFrom G (clks d) come (n-(k+1)) (k+1))=res:=by
     have:=HSTEP.out
     simpa using this.symm
    have HALL:=Jh hall
    clear hall HSTEP
    go_wp2_with fail
    refine wp_loop (fun a wi=>∃ (j:Nat) (y10 y33 y34 y35 y36 y37 y38 y39 y40 y41 y42 y43:Value),a=⟨#[.slice (some ⟨bg,og,Option.none⟩) n cg,.agg #[sv,.slice (some ⟨b0,o0,Option.none⟩) n c0,cv],.slice (some ⟨C,0,Option.none⟩) n n,undef,.pointer (some ⟨w.heap.size,0,Option.none⟩),undef,.int .i64 0,.int .i64 (k:Int),.slice au lk.length cu,x9,y10,.slice (some ⟨bg,og,Option.none⟩) n cg,.int .i64 n,.int .i64 (k:Int),.bool true,.int .i64 (k:Int),.pointer (some ⟨bg,og+k,Option.none⟩),.slice au lk.length cu,.slice (some ⟨C,0,Option.none⟩) n n,.int .i64 (k:Int),.pointer (some ⟨C,k,Option.none⟩),.bool false,.bool false,.pointer (some ⟨w.heap.size,1,Option.none⟩),.slice (some ⟨b0,o0,Option.none⟩) n c0,.int .i64 (k:Int),.pointer (some ⟨b0,o0+k*2,Option.none⟩),.pointer (some ⟨b0,o0+k*2,Option.none⟩),.bool false,.bool false,.slice au lk.length cu,.int .i64 lk.length,.int .i64 (j:Int),y33,y34,y35,y36,y37,y38,y39,y40,y41,y42,y43],[]⟩ /\
     j<=lk.length/\Hid ((lk.drop j).all (fun q=>come.getD q.toNat false)=lk.all fun q=>come.getD q.toNat false)/\wi=wr) (fun a _=>lk.length-(intOf (a.tmps.getD 32 undef)).toNat)
     ⟨0,_,_,_,_,_,_,_,_,_,_,_,_,rfl,Nat.zero_le _,Jh rfl,rfl⟩ ?_
    rintro a wi ⟨j,y10,y33,y34,y35,y36,y37,y38,y39,y40,y41,y42,y43,rfl,hj,HJ,rfl⟩
    by_cases hjl:j<lk.length
    ·obtain rfl:=HUA.out (by omega)
     have hq:=HUR.out.get (List.getElem?_eq_getElem hjl)
     have yq:=hq 0 _ rfl
     simp only [Nat.mul_one,Nat.add_zero] at yq
     have hqr:=HRK.out _ (List.getElem_mem hjl)
     have hJ:=HJ.out
     rw [List.drop_eq_getElem_cons hjl,List.all_cons] at hJ
     generalize lk[j]=q at *
     obtain ⟨q',rfl⟩:∃ q':Nat,q=q':=⟨q.toNat,by omega⟩
     have hqc:q'<come.length:=by have:=HCL.out;omega
     have ycq:=(HC.out.ext HX.out).cell q'
     rw [List.getElem?_toArray,List.getElem?_map,List.getElem?_eq_getElem hqc] at ycq
     simp only [Option.map_some] at ycq
     have hgd:come.getD ((q':Int)).toNat false=come[q']:=by rw [Int.toNat_natCast,List.getD_eq_getElem?_getD,List.getElem?_eq_getElem hqc];rfl
     rw [hgd] at hJ
     generalize come[q']=cq at *
     have HJ2:=Jh hJ
     clear hJ hq hqc hgd HJ
     cases cq
     ·have hnx:nextFrom G (clks d) come (n-(k+1)) (k+1)=res:=by
       have e:=HJ2.out
       rw [Bool.false_and] at e
       have:=HALL.out
       rw [<-e] at this
       simpa using this
      have HNX:=Jh hnx
      clear hnx HALL HJ2
      go_wp2_with fail
      exact ⟨⟨k+1,by omega,by omega,HNX⟩,by simp [intOf];omega⟩
     ·have hJ3:(lk.drop (j+1)).all (fun q=>come.getD q.toNat false)=lk.all fun q=>come.getD q.toNat false:=by
       have e:=HJ2.out
       rwa [Bool.true_and] at e
      have HJ3:=Jh hJ3
      clear hJ3 HJ2
      go_wp2_with fail
      exact ⟨⟨j+1,by omega,by omega,HJ3⟩,by simp [intOf];omega⟩
    ·have hjj:j=lk.length:=by omega
     have hall:(k:Int)=res:=by
      have e:=HJ.out
      rw [hjj,List.drop_length,List.all_nil] at e
      have:=HALL.out
      rw [<-e] at this
      simpa using this
     have HAL2:=Jh hall
     clear hall HJ HALL
     go_wp2_with fail
     try rw [Exit.noGoto_ret]
     go_ret
     exact ⟨ret_int HAL2.out,HX.out⟩
   ·have hnx:nextFrom G (clks d) come (n-(k+1)) (k+1)=res:=by
     have:=HSTEP.out
     simpa using this.symm
    have HNX:=Jh hnx
    clear hnx HSTEP
    go_wp2_with fail
    exact ⟨⟨k+1,by omega,by omega,HNX⟩,by simp [intOf];omega⟩
  ·have hnx:nextFrom G (clks d) come (n-(k+1)) (k+1)=res:=by
    have:=HSTEP.out
    simpa using this.symm
   have HNX:=Jh hnx
   clear hnx HSTEP
   go_wp2_with fail
   exact ⟨⟨k+1,by omega,by omega,HNX⟩,by simp [intOf];omega⟩
 ·obtain rfl:k=n:=by omega
  go_wp2_with fail
  try rw [Exit.noGoto_ret]
  go_ret
  have:=HK.out
  rw [Nat.sub_self,nextFrom] at this
  exact ⟨ret_int this,HX.out⟩
/-! ### (graph).order -/
theorem info_bool:(Tryz.prog.info? 4).map (fun i=>(i.zero,i.size,i.bytes))=some (some (.bool false),1,1):=by kernel_rfl
theorem blk_setB {w:World} {g:Nat} {l:List Bool} (h:Blk w g (l.map Value.bool).toArray 4) (j:Nat) (x:Bool):Blk (w.setCell ⟨g,j,none⟩ (.bool x)) g ((l.set j x).map Value.bool).toArray 4:=by
 have:=h.set j (.bool x)
 rw [Ja] at this
 rw [List.map_set]
 exact this
theorem falses_le (l:List Bool):falses l<=l.length:=List.countP_le_length
def lenV:Value->Nat
 | .slice _ m _=>m
 | _=>0
def ordM (G:List (List Int)) (clk:List Bool):List Int:=orderM G clk (G.length+1) (List.replicate G.length false) []
theorem order_calls (d:Flat) (v gv:Value) (G:List (List Int)) (w:World) (h:FlatV w v d) (hg:IntsL w gv G) (hln:G.length=d.procs.length) (hG:G.length<=1073741824)
  (hr:∀ l∈G,l.length<=1073741824/\∀ q∈l,0<=q/\q.toNat<G.length) :
  Calls Tryz.prog 68 #[gv,v] w fun r w'=>∃ u,r=.returned u/\IntRow w.heap.size u (ordM G (clks d)) w'/\Ext w w':=by
 have HF:=Jh h
 have HGL:=Jh hg
 have HR:=Jh hr
 have HLN:=Jh hln
 obtain ⟨sv,pv,cv,rfl,hS,hP,hCk⟩:=h
 have HX:=Jh (ext_alloc w (.cells [sv,pv,cv].toArray 26))
 have HB:=Jh (Blk.new w [sv,pv,cv].toArray 26)
 obtain ⟨ag,bg,og,cg,rfl,hg1,hg2,hag,hgr⟩:=hg.open
 obtain ⟨n,hn⟩:∃ n,G.length=n:=⟨_,rfl⟩
 obtain ⟨res,hres⟩:∃ res,ordM G (clks d)=res:=⟨_,rfl⟩
 have hres0:orderM G (clks d) (n+1) (List.replicate n false) []=res:=by rw [<-hres,<-hn];rfl
 rw [hn] at hG hg1 HGL
 rw [hn,hres]
 have HN:=Jh hn
 have HRES:=Jh hres0
 clear hS hP hCk hg hr hag hgr hln hres hres0 hn
 go_enter Tryz.func68,Tryz.ntmps68
 go_upto_region 1 with fail
 generalize w.alloc _=w1 at *
 go_wp2_with ((with_reducible show Jw (Op.makeSlice _ _ _));refine Hid.out ?_)
 refine Jh ?_
 have hx2:=ext_alloc w1 (.cells (madeCells (Value.bool false).cells (n*1)) 4)
 have hb2:=Blk.new w1 (madeCells (Value.bool false).cells (n*1)) 4
 rw [show madeCells (Value.bool false).cells (n*1)=(List.replicate n (Value.bool false)).toArray by rw [Nat.mul_one];exact madeCells_one _ _] at hx2 hb2
 refine wpList_mk rfl _ _ _ rfl (n:=n) rfl rfl Tryz.underlying64 info_bool (by omega) (by omega) ?_
 rw [show madeCells (Value.bool false).cells (n*1)=(List.replicate n (Value.bool false)).toArray by rw [Nat.mul_one];exact madeCells_one _ _]
 have hs2:(w1.alloc (.cells (List.replicate n (Value.bool false)).toArray 4)).heap.size=w1.heap.size+1:=by simp
 generalize w1.alloc _=w2 at *
 obtain ⟨c,hc⟩:∃ c,w1.heap.size=c:=⟨_,rfl⟩
 have hcw:w.heap.size<=c:=by rw [<-hc];exact HX.out.size
 rw [hc] at hb2 hs2 ⊢
 have hb2':Blk w2 c ((List.replicate n false).map Value.bool).toArray 4:=by rw [List.map_replicate];exact hb2
 have HC:=Jh hc
 have HX2:=Jh hx2
 have HB2:=Jh hb2'
 have hz2:c<w2.heap.size:=by omega
 clear hc hx2 hb2 hb2' hs2
 /- one call of next -/
 have NEXT:Hid (∀ (come:List Bool) (W:World),come.length=n->Blk W c (come.map Value.bool).toArray 4->Ext w1 W ->
   Calls Tryz.prog 87 #[.slice ag n cg,.agg #[sv,pv,cv],.slice (some ⟨c,0,none⟩) n n] W fun r w'=>r=.returned (.int .i64 (nextM G (clks d) come))/\Ext W w'):=Jh fun come W h1 h2 h3=>by
  have hXW:=HX.out.trans h3
  have:=next_calls d (.agg #[sv,pv,cv]) (.slice ag n cg) G come c W (HF.out.ext hXW) (HGL.out.ext hXW) HLN.out (by rw [h1,HN.out]) h2 HR.out (by rw [HN.out];exact hG)
  rw [HN.out] at this
  exact this
 have HBX:=Jh (HB.out.ext HX2.out)
 have N0:=Jh (NEXT.out (List.replicate n false) w2 (by simp) HB2.out HX2.out)
 go_upto_region 4 with (first | ((with_reducible show Jl 26);refine Jm 26 (HBX.out.has) agg_Flat rfl ?_) | (go_at_call 87;refine N0.out.mono ?_;rintro r w3 ⟨rfl,hx3⟩))
 have hb3:=HB2.out.ext hx3
 have hX3:=HX2.out.trans hx3
 have hfl:falses (List.replicate n false)=n:=by unfold falses;rw [List.countP_replicate];simp
 refine wp_loop (fun a wr=>∃ (u:Value) (come:List Bool) (out:List Int) (fuel:Nat) (x1 x2 x8 x9 x10 x11 x12 x13 x14 x15 x16 x17 x18 x19 x20 x21 x22 x23 x24 x25 x26 x27 x28:Value),a=⟨#[.slice ag n cg,x1,x2,.pointer (some ⟨w.heap.size,0,Option.none⟩),.slice Option.none 0 0,.slice (some ⟨c,0,Option.none⟩) n n,u,.int .i64 (nextM G (clks d) come),x8,x9,x10,x11,x12,x13,x14,x15,x16,x17,x18,x19,x20,x21,x22,x23,x24,x25,x26,x27,x28],[]⟩ /\
  come.length=n/\out.length+falses come=n/\falses come<fuel/\Hid (orderM G (clks d) fuel come out=res)/\Blk wr c (come.map Value.bool).toArray 4/\IntRow c u out wr/\Ext w1 wr) (fun a _=>n-lenV (a.tmps.getD 6 undef))
  ⟨_,List.replicate n false,[],n+1,_,_,_,_,_,_,_,_,_,_,_,_,_,_,_,_,_,_,_,_,_,_,_,rfl,by simp,by rw [hfl];simp,by rw [hfl];omega,HRES,hb3,IntRow.nil _ _,hX3⟩ ?_
 clear hb3 hX3 hfl HRES HB2 N0 HX2 HBX hx3
 rintro a wr ⟨u,come,out,fuel,x1,x2,x8,x9,x10,x11,x12,x13,x14,x15,x16,x17,x18,x19,x20,x21,x22,x23,x24,x25,x26,x27,x28,rfl,hcl,hof,hff,HO,hbc,hro,hxr⟩
 obtain ⟨au,cu,hu,-⟩:=hro.open
 have HBC:=Jh hbc
 have HRO:=Jh hro
 have HXR:=Jh hxr
 have HCL:=Jh hcl
 have hcr:=hbc.lt
 obtain ⟨f,hfe⟩:∃ f,fuel=f+1:=⟨fuel-1,by omega⟩
 rw [hfe] at HO hff
 have hord:=HO.out
 rw [orderM] at hord
 try simp only at hord
 clear hbc hro hxr hcl HO hfe
 rcases nextM_spec G (clks d) come with ⟨h1,h2⟩ | ⟨k,h1,h2,h3⟩
 ·rw [h1,if_neg (by decide)] at hord
  have HORD:=Jh hord
  subst hu
  rw [h1]
  clear h1 h2 hord
  go_wp2_with fail
  go_ret
  exact ⟨_,rfl,by rw [<-HORD.out];exact HRO.out.less hcw,HX.out.trans HXR.out⟩
 ·rw [h1,if_pos (by omega),Int.toNat_natCast] at hord
  have hkn:k<n:=by rw [<-HN.out];exact h2
  have hfp:=falses_pos come k (by rw [HCL.out];exact hkn) ((ready_iff _ _ _ _).1 h3).1
  have hkc:k<come.length:=by rw [HCL.out];exact hkn
  rw [h1]
  obtain ⟨m,hm⟩:∃ m,out.length=m:=⟨_,rfl⟩
  rw [hm] at hu hof
  have hmn:m<n:=by omega
  subst hu
  have HM:=Jh hm
  have HORD:=Jh hord
  have yc:=HBC.out.cell k
  rw [List.getElem?_toArray,List.getElem?_map,List.getElem?_eq_getElem hkc] at yc
  simp only [Option.map_some] at yc
  generalize come[k]=cb at yc
  have yf:=HBC.out.frozen k
  have hb4:=blk_setB HBC.out k true
  have hg4:=gb_set wr c k (.bool true)
  have hr4:=HRO.out.grown hg4 (fun q hq e=>HRO.out.ne HBC.out (by decide) hq (by cases e;rfl))
  have hx4:Ext w1 _:=Ext.grown HXR.out hg4 (by rw [HC.out];exact Nat.le_refl _)
  have hs4:=hg4.size
  have hcome:(come.set k true).length=n:=by rw [List.length_set];exact HCL.out
  have hof2:m+1+falses (come.set k true)=n:=by omega
  have hff2:falses (come.set k true)<f:=by omega
  generalize come.set k true=come' at *
  have HB4:=Jh hb4
  have HR4:=Jh hr4
  have HX4:=Jh hx4
  have HCO:=Jh hcome
  clear h1 h2 h3 hord hfp hkc hm hb4 hg4 hr4 hx4 hcome hof hff
  go_upto_region 7 with fail
  generalize wr.setCell _ _=w4 at *
  have hx5:=ext_alloc w4 (.cells [Value.int .i64 (k:Int)].toArray 3)
  have hb5:=Blk.new w4 [Value.int .i64 (k:Int)].toArray 3
  have hr5:=HR4.out.ext hx5
  have hs5:(w4.alloc (.cells [Value.int .i64 (k:Int)].toArray 3)).heap.size=w4.heap.size+1:=by simp
  have hbc5:=HB4.out.ext hx5
  have hX5:=HX4.out.trans hx5
  have hww:=(HX.out.trans hX5).size
  go_wp2_with (first | ((with_reducible show Jw (Op.buildSlice _ _ _));refine wpList_bs1 rfl _ _ rfl appInt rfl (cs:=[Value.int .i64 (k:Int)]) rfl rfl (by decide) ?_) | ((with_reducible show Jw (Op.call { callee:=.builtin .append,args:=_,argTypes:=_ }));refine Hid.out ?_))
  refine Jh ?_
  refine wpList_appI (m:=1) (news:=[(k:Int)]) rfl _ _ rfl rfl hr5 rfl (fun _=>Nat.lt_of_lt_of_le Nat.zero_lt_one (Nat.le_refl 1)) rfl (news_has hb5.has) (by rw [HM.out];omega) (by omega) ?_
  intro g6 cap6 w6 hr6 hg6
  rw [HM.out] at hr6 ⊢
  have hbc6:Blk w6 c (come'.map Value.bool).toArray 4:=(hg6.block _ hbc5.lt (fun e=>hr5.ne hbc5 (by decide) e.symm rfl)).trans hbc5
  have hX6:Ext w1 w6:=Ext.grownO hX5 hg6 (fun q hq=>by rw [HC.out];exact (hr5.at hq).1)
  have HBX6:=Jh (HB.out.ext hX6)
  have N6:=Jh (NEXT.out come' w6 HCO.out hbc6 hX6)
  have HR6:=Jh hr6
  have HX6:=Jh hX6
  have HBC6:=Jh hbc6
  clear hr6 hX6 hbc6 hg6 hr5 hb5 hbc5 hX5 hs5 hx5 hww
  generalize w4.alloc _=w5 at *
  go_wp2_with (first | ((with_reducible show Jl 26);refine Jm 26 (HBX6.out.has) agg_Flat rfl ?_) | (go_at_call 87;refine N6.out.mono ?_;rintro r w7 ⟨rfl,hx7⟩))
  exact ⟨⟨_,come',out++[(k:Int)],f,_,_,_,_,_,_,_,_,_,_,_,_,_,_,_,_,_,_,_,_,_,_,_,rfl,HCO.out,by rw [List.length_append,HM.out];exact hof2,hff2,HORD,HBC6.out.ext hx7,HR6.out.ext hx7,HX6.out.trans hx7⟩,by simp [lenV];omega⟩
/-! ### plain: what is found of a design -/
def rsM (d:Flat):List (List Int):=(List.range d.procs.length).map fun (p:Nat)=>readsM d (p:Int)
def graphM (d:Flat) (by':List Int):List (List Int):=hangM by' (clks d) (rsM d)
theorem graphM_length (d:Flat) (by':List Int):(graphM d by').length=d.procs.length:=by simp [graphM,hangM,rsM]
theorem graphM_get (d:Flat) (by':List Int) {k:Nat} (hk:k<d.procs.length):(graphM d by')[k]? = some (hang1 by' (clks d) (readsM d (k:Int)) []):=by
 simp [graphM,hangM,rsM,List.getElem?_range,hk]
def subM (ls:List Signal) (by':List Int) (s:Nat):List Int:=(by'.drop (sumW ls s).toNat).take (sumW ls (s+1)-sumW ls s).toNat
def noneF (ls:List Signal) (by':List Int):Nat->List Signal->Bool
 | _,[]=>false
 | s,x::l=>if ((decide (x.kind=2)||decide (x.kind=3))&&(subM ls by' s).contains (-1))=true then true else noneF ls by' (s+1) l
def latF (d:Flat):Nat->List Proc->Bool
 | _,[]=>false
 | p,x::l=>if (!x.clocked&&!decide ((writesM d (p:Int)).length=(alwaysM d (p:Int)).length))=true then true else latF d (p+1) l
def lookM (d:Flat):Int × List (List Int) × List Int :=
 if (drvD d).1≠0 then ((drvD d).1,[],[])
 else if noneF d.signals (drvD d).2 0 d.signals=true then (121,[],[])
 else if latF d 0 d.procs=true then (122,[],[])
 else if (ordM (graphM d (drvD d).2) (clks d)).length<wiresM (clks d) then (123,[],[])
 else (0,graphM d (drvD d).2,ordM (graphM d (drvD d).2) (clks d))
theorem drvD_cases (d:Flat):(∃ e,drvD d=(e,[])/\e≠0)\/(checkM d=0/\∃ o,drvD d=(0,o)/\drvM (nBits d).toNat (wsM d)=some o):=by
 unfold drvD
 by_cases h:checkM d=0
 ·rw [if_pos h]
  cases hd:drvM (nBits d).toNat (wsM d) with
  | none=>exact .inl ⟨120,rfl,by decide⟩
  | some o=>exact .inr ⟨h,o,rfl,rfl⟩
 ·rw [if_neg h]
  exact .inl ⟨1,rfl,by decide⟩
theorem wsM_range {d:Flat} (hok:d.ok) (hc:checkM d=0):∀ l∈wsM d,∀ b∈l,0<=b/\b<((nBits d).toNat:Nat):=by
 intro l hl b hb
 obtain ⟨p,hp,rfl⟩:=List.mem_map.1 hl
 have:=writesM_range hok hc (p:=(p:Int)) (by simpa using hp) b hb
 omega
theorem drvD_len {d:Flat} (hok:d.ok) (hc:checkM d=0) {o:List Int} (ho:drvM (nBits d).toNat (wsM d)=some o):(o.length:Int)=nBits d/\∀ x∈o,-1<=x/\x<d.procs.length:=by
 have:=nBits_le hok hc
 have h1:=drvM_length ho
 refine ⟨by omega,fun x hx=>?_⟩
 have:=drvM_range (wsM_range hok hc) ho x hx
 rwa [wsM_length] at this
theorem graphM_range {d:Flat} (hok:d.ok) (hc:checkM d=0) {by':List Int} (hbl:(by'.length:Int)=nBits d) (hbr:∀ x∈by',-1<=x/\x<d.procs.length) :
  ∀ l∈graphM d by',l.length<=1073741824/\∀ q∈l,0<=q/\q.toNat<(graphM d by').length:=by
 intro l hl
 obtain ⟨r,hr,rfl⟩:=List.mem_map.1 hl
 obtain ⟨p,hp,rfl⟩:=List.mem_map.1 hr
 have hp':p<d.procs.length:=by simpa using hp
 have hrr:=readsM_range hok hc (p:=(p:Int)) (by simpa using hp')
 have hq:∀ q∈hang1 by' (clks d) (readsM d (p:Int)) [],0<=q/\q.toNat<(graphM d by').length:=by
  intro q hq
  obtain ⟨h1,-,b,hb,h3⟩:=(mem_hang _ _ _ _).1 hq
  refine ⟨h1,?_⟩
  rw [graphM_length]
  have:=hrr b hb
  have hlt:b.toNat<by'.length:=by omega
  rw [List.getD_eq_getElem?_getD,List.getElem?_eq_getElem hlt] at h3
  have:=hbr _ (List.getElem_mem hlt)
  simp only [Option.getD_some] at h3
  omega
 refine ⟨?_,hq⟩
 have key:∀ (r g:List Int),(hang1 by' (clks d) r g).length<=g.length+r.length:=by
  intro r
  induction r with
  | nil=>intro g;simp [hang1]
  | cons b r ih =>
   intro g
   rw [hang1]
   try simp only
   split
   ·have:=ih (g++[by'.getD b.toNat 0]);simp only [List.length_append,List.length_cons,List.length_nil] at this ⊢;omega
   ·have:=ih g;simp only [List.length_cons];omega
 have h1:=key (readsM d (p:Int)) []
 have h2:(readsM d (p:Int)).length<=(nBits d).toNat:=lt_length _ _ (numbersM_lt _ _:(readsM d (p:Int)).Pairwise (·<·)) hrr
 have h3:=nBits_le hok hc
 simp only [List.length_nil] at h1
 omega
theorem ints_sub {w:World} {g c:Nat} {l:List Int} (h:∀ i x,l[i]? = some x->w.cell? ⟨g,i,none⟩=some (.int .i64 x)) {a n:Nat} (hn:a+n<=l.length) (hc:n<=c) (hm:c<=9223372036854775807) :
  Ints w (.slice (some ⟨g,a,none⟩) n c) ((l.drop a).take n):=by
 have hl:((l.drop a).take n).length=n:=by simp;omega
 refine ⟨g,a,⟨_,c,by rw [hl],by rw [hl];exact hc,by simpa [maxLen] using hm,fun _=>rfl⟩,?_⟩
 refine rows_flat (f:=fun x=>[Value.int .i64 x]) (fun _=>rfl) _ a ?_
 rw [flat1]
 intro j u hj
 rw [List.getElem?_map] at hj
 cases hq:((l.drop a).take n)[j]? with
 | none=>rw [hq] at hj;cases hj
 | some x =>
  rw [hq] at hj
  cases hj
  refine h (a+j) x ?_
  rw [List.getElem?_take] at hq
  split at hq
  ·rw [List.getElem?_drop] at hq;exact hq
  ·cases hq
end Go.Proofs.YtoaamjgfhppppaaGreat
