/- Laws and walks that a claim of this seat leans on: Collect, Needs, RefL. -/
import Derived.Test.YtemabheegnngdaaGreatV20
import Derived.Test.YtemabheegnngdaaGreatVWrites
import Derived.Test.YtemabheegnngdaaGreatV12
import Derived.Test.YtemabheegnngdaaGreatV00
set_option linter.all false
namespace Go.Proofs.YtemabheegnngdaaGreat
open Go.RowKit
theorem SeqV.hard {P:Program} {n0:Nat} {g:FuncId} {lb:Array Value} {xs:List Value} {w w':World} (h:SeqV P n0 g lb xs w) (hh:HardV n0 w w'):SeqV P n0 g lb xs w' :=
 fun l J W hW h1 h2 h3 h4 h5=>h l J W (hh.trans hW) h1 h2 h3 h4 h5
set_option maxRecDepth 100000 in
set_option maxHeartbeats 1000000 in
theorem appendInts_calls {g:Nat} {lb:Array Value} (hg:Leads Tryz.prog g) (n0:Nat) (xs:List Int) (w:World) (hn:n0 ≤ w.heap.size) (hseq:SeqV Tryz.prog n0 g lb (xs.map (Value.int .i64)) w) (hb:xs.length ≤ 1073741824) :
  Calls Tryz.prog 157 #[.slice none 0 0,.func (.func g) #[] lb] w fun r w'=>∃ v',r=.returned v'∧IntRow n0 v' xs w'∧HardV n0 w w':=by
 have hX:=ext_alloc w (.cells #[.slice none 0 0] 31)
 have hbx:=Blk.new w #[.slice none 0 0] 31
 have hs1:(w.alloc (.cells #[.slice none 0 0] 31)).heap.size=w.heap.size + 1:=by simp
 have hq1:=hseq.hard (HardV.of_ext hX hn)
 have hH1:=HardV.of_ext hX hn
 have HQ1:=Lib.hid hq1
 clear hseq hq1
 refine callsIn_wide.1 (callsIn_of_wp_marks (n:=0) Tryz.func157 rfl trivial ?_);rw [wpIn_wide];simp only [Tryz.ntmps157,List.size_toArray,List.length_cons,List.length_nil,Nat.reduceAdd,Nat.reduceSub,Array.replicate_succ,Array.replicate_zero,List.push_toArray,List.append_toArray,List.nil_append,List.cons_append]
 go_wp2_with fail
 generalize w.alloc _=w1 at *
 have hI:OwnFrom w1.heap.size (fun (pre:List Value) (Wx:World)=>∃ (u:Value) (zs:List Int),pre=zs.map (Value.int .i64)∧Blk Wx w.heap.size #[u] 31∧IntRow n0 u zs Wx∧HardV n0 w Wx∧w.heap.size < Wx.heap.size):=by
  rintro pre A B row ⟨u,zs,h1,h2,h3,h4,h5⟩ hg hr
  exact ⟨u,zs,h1,own_blk h2 hg hr,own_rowI h3 hg hr,own_hardV h4 (by omega) (by omega) hg hr,own_size h5 hg⟩
 refine wp_rangeV (n0:=n0) rfl hg HQ1.out rfl (by omega)
  (fun pre Wx=>∃ (u:Value) (zs:List Int),pre=zs.map (Value.int .i64)∧Blk Wx w.heap.size #[u] 31∧IntRow n0 u zs Wx∧HardV n0 w Wx∧w.heap.size < Wx.heap.size) hI
  ⟨_,[],rfl,hbx,IntRow.nil _ _,hH1,by omega⟩
  (fun pre x aM Wx=>(∃ (u:Value) (zs:List Int),pre=zs.map (Value.int .i64)∧Blk Wx w.heap.size #[u] 31∧IntRow n0 u zs Wx∧HardV n0 w Wx∧w.heap.size < Wx.heap.size)∧∃ z:Int,x=.int .i64 z∧∃ f:Nat→Value,aM=⟨#[f 0,f 1,.pointer (some ⟨w.heap.size,0,Option.none⟩),f 3,f 4,.int .i64 z,f 6,f 7,f 8,f 9,f 10,f 11,f 12],[]⟩)
  (fun pre x aM s A B row hs hg hr=>⟨hI pre A B row hs.1 hg hr,hs.2⟩) ?assign ?body ?done
 case assign =>
  rintro l' m pre x Wx ⟨u,zs,h1,h2,h3,h4,h5⟩ ⟨post',hxp⟩ hsz
  obtain ⟨z,-,rfl⟩:=List.mem_map.1 (show x ∈ xs.map (Value.int .i64) by rw [hxp];simp)
  refine regionIn_of_list (r:=some l') (by kernel_rfl) (by rintro ⟨_,_,h⟩;exact h) ?_
  go_wp2_with fail
  exact ⟨keepsFrom_ext (Below.refl _ _),HardV.refl _ _,⟨u,zs,h1,h2,h3,h4,h5⟩,z,rfl,someF rfl⟩
 case body =>
  rintro l' m pre x aM Wx ⟨⟨u,zs,rfl,h2,h3,h4,h5⟩,z,rfl,f,rfl⟩ ⟨post',hxp⟩ hsz
  have hlen:zs.length + 1 ≤ xs.length:=by have:=congrArg List.length hxp;simp at this;omega
  obtain ⟨au,cu,hu,-⟩:=h3.open
  subst hu
  refine wpIn_block ?_
  refine regionIn_of_list (r:=some l') (by kernel_rfl) (by rintro ⟨_,_,h⟩;exact h) ?_
  have g0:=h2.has 0 _ rfl
  have hx6:=ext_alloc Wx (.cells [Value.int .i64 z].toArray 3)
  have hb6:=Blk.new Wx [Value.int .i64 z].toArray 3
  have h26:=h2.ext hx6
  have h36:=h3.ext hx6
  obtain ⟨n,hnn⟩ : ∃ n,zs.length=n:=⟨_,rfl⟩
  have HN2:Hid (zs.length=n):=Lib.hid hnn
  have H36:=Lib.hid h36
  rw [hnn] at g0 h36 h26 h2 h3 hlen
  clear hnn
  go_wp2_with (first | ((with_reducible show Jw (Op.buildSlice _ _ _));refine wpList_bs1 rfl _ _ rfl appInt rfl (cs:=[Value.int .i64 z]) rfl rfl (by decide) ?_) | ((with_reducible show Jw (Op.call { callee:=.builtin .append,args:=_,argTypes:=_ }));refine Hid.out ?_))
  refine Lib.hid ?_
  have hnn2:=HN2.out
  refine wpList_appI (m:=1) (news:=[z]) rfl _ _ rfl rfl h36 rfl (fun _=>Nat.lt_of_lt_of_le Nat.zero_lt_one (Nat.le_refl 1)) rfl (news_has hb6.has) (by omega) (by simp;omega) ?_
  intro g7 cap7 w7 hr7 hg7
  rw [hnn2] at hr7 ⊢
  have hs6:(Wx.alloc (.cells [Value.int .i64 z].toArray 3)).heap.size=Wx.heap.size + 1:=by simp
  generalize Wx.alloc _=w6 at *
  have h27:Blk w7 w.heap.size #[.slice au n cu] 31:=(hg7.block _ h26.lt (fun e=>h36.ne h26 (by decide) e.symm rfl)).trans h26
  have z0:=h27.has 0 _ rfl
  have z1:=h27.frozen 0
  have hset:=h27.set 0 (.slice (some ⟨g7,0,none⟩) (n + 1) cap7)
  have hgs:=gb_set w7 w.heap.size 0 (.slice (some ⟨g7,0,none⟩) (n + 1) cap7)
  have hr8:=hr7.grown hgs (fun k hk e=>hr7.ne h27 (by decide) hk (by cases e;rfl))
  have hk8:=((keepsFrom_ext (B:=w1.heap.size) hx6).trans (keepsFrom_gb hg7 fun k hk=>by obtain ⟨-,cur,h⟩:=h36.at hk;exact ⟨_,_,_,h⟩)).trans (keepsFrom_gb hgs fun k hk=>by cases hk;exact ⟨_,_,_,h27⟩)
  have hh8:=((HardV.of_ext hx6 (by omega)).trans (HardV.of_gb (n0:=n0) hg7 (by omega) fun k hk=>by obtain ⟨q1,cur,h⟩:=h36.at hk;exact ⟨q1,fun c t f hc=>by rw [h] at hc;cases hc;rfl⟩)).trans (HardV.of_gb hgs (by have:=hg7.size;omega) fun k hk=>by cases hk;exact ⟨hn,fun c t f hc=>by rw [show w7.heap[w.heap.size]? = some (.cells _ _ (0,0)) from h27] at hc;cases hc;rfl⟩)
  have hz8:=hg7.size
  clear hnn2
  go_wp2_with fail
  rw [hs1] at hk8
  exact ⟨hk8,hh8,_,zs ++ [z],by simp,hset,hr8,h4.trans hh8,by have:=hgs.size;omega⟩
 case done =>
  rintro M Wx hM ⟨u,zs,h1,h2,h3,h4,h5⟩ hh hdef
  obtain rfl:xs=zs:=by
   have:=congrArg (List.map intOf) h1
   simpa [List.map_map,Function.comp_def,intOf] using this
  obtain ⟨au,cu,hu,-⟩:=h3.open
  subst hu
  have g0:=h2.has 0 _ rfl
  go_wp2_with fail
  refine leaves_marks (B:=w1.heap.size) (fun _ Wx=>IntRow n0 (.slice au xs.length cu) xs Wx∧HardV n0 w Wx∧w1.heap.size ≤ Wx.heap.size) (fun s A B row hs hg hr=>⟨own_rowI hs.1 hg hr,own_hardV hs.2.1 (by omega) (by have:=hs.2.2;omega) hg hr,Nat.le_trans hs.2.2 hg.size⟩) ?_ _ _ ((Marks.nil _ _).cons (M:=w1.heap.size) (by simp) hM (by omega) hdef) ⟨h3,h4,by omega⟩
  rintro Wx ⟨q1,q2,q3⟩
  exact ⟨.slice au xs.length cu,by simp [results,Tryz.results157,go_sem],_,rfl,q1,q2⟩
set_option maxRecDepth 100000 in
theorem collectInts_calls {g:Nat} {lb:Array Value} (hg:Leads Tryz.prog g) (n0:Nat) (xs:List Int) (w:World) (hn:n0 ≤ w.heap.size) (hseq:SeqV Tryz.prog n0 g lb (xs.map (Value.int .i64)) w) (hb:xs.length ≤ 1073741824) :
  Calls Tryz.prog 106 #[.func (.func g) #[] lb] w fun r w'=>∃ v',r=.returned v'∧IntRow n0 v' xs w'∧HardV n0 w w':=by
 have HC:=Lib.hid (appendInts_calls hg n0 xs w hn hseq hb)
 clear hseq
 go_enter Tryz.func106,Tryz.ntmps106
 go_wp2_with ((go_at_call 157;refine (HC.out).mono ?_;rintro r w1 ⟨v1,rfl,hr1,hh1⟩))
 go_ret
 exact ⟨_,rfl,hr1,hh1⟩
set_option maxRecDepth 100000 in
theorem sortedInts_calls {g:Nat} {lb:Array Value} (hg:Leads Tryz.prog g) (xs:List Int) (w:World) (hseq:SeqV Tryz.prog w.heap.size g lb (xs.map (Value.int .i64)) w) (hb:xs.length ≤ 1073741824) :
  Calls Tryz.prog 60 #[.func (.func g) #[] lb] w fun r w'=>∃ v',r=.returned v'∧IntRow w.heap.size v' (sortI xs) w'∧Ext w w':=by
 have HC:=Lib.hid (collectInts_calls hg w.heap.size xs w (Nat.le_refl _) hseq hb)
 clear hseq
 go_enter Tryz.func60,Tryz.ntmps60
 go_wp2_with (first | (go_at_call 106;refine HC.out.mono ?_;rintro r w1 ⟨v1,rfl,hr1,hh1⟩;have HR1:=Lib.hid hr1;have HH1:=Lib.hid hh1;clear hr1 hh1) | (go_at_call 107;refine (sort_calls _ _ _ _ HR1.out (by omega)).mono ?_;rintro r w2 ⟨rfl,hr2,hg2⟩))
 go_ret
 exact ⟨_,rfl,hr2,Ext.grownO HH1.out.below hg2 (fun j hj=>(HR1.out.at hj).1)⟩
open Go.RowKit
def needsM (d:Flat) (e:E):List Int × Int:=if mayM d e=true then (setI (bitsM d.signals e),0) else ([],1)
theorem bitsM_length {ls:List Signal} (hls:∀ x ∈ ls,1 ≤ x.w∧x.w ≤ 64) (e:E):WS ls e→(bitsM ls e).length ≤ 65 * nodes e:=by
 induction e using E.ind with
 | h e ih =>
  intro h
  obtain ⟨-,hp⟩:=(WS_iff ls e).1 h
  have hs:=ws_sig hls h
  have h0:(ownB ls e (cntB ls e)).length ≤ 65:=by unfold ownB cntB;simp;omega
  have h1:((e.l.map (bitsM ls)).flatten).length ≤ 65 * sumBy nodes e.l:=by
   have:∀ l:List E,(∀ x ∈ l,(bitsM ls x).length ≤ 65 * nodes x)→((l.map (bitsM ls)).flatten).length ≤ 65 * sumBy nodes l:=by
    intro l
    induction l with
    | nil=>intro _;simp
    | cons x l ih =>
     intro h
     have h1:=h x (by simp)
     have h2:=ih fun y hy=>h y (by simp [hy])
     rw [List.map_cons,List.flatten_cons,List.length_append,sumBy]
     omega
   exact this e.l fun x hx=>ih x hx (hp x hx)
  rw [bitsM_eq hls h,List.length_append,nodes_eq]
  omega
set_option maxRecDepth 100000 in
set_option maxHeartbeats 2000000 in
theorem Needs_calls (d:Flat) (v:Value) (e:E) (cs:List Value) (w:World) (hF:FlatV w v d) (hok:d.ok) (hV:VE w cs e) (hwf:e.wf) (hn:nodes e ≤ 1048576) :
  Calls Tryz.prog 25 #[v,.agg cs.toArray] w fun r w'=>∃ u,r=.returned (.tuple #[u,.int .i64 (needsM d e).2])∧IntRow w.heap.size u (needsM d e).1 w'∧Ext w w':=by
 have HMY:=Lib.hid (fun W (h:Ext w W)=>mayE_calls d v e cs W (hF.ext h) hok (hV.ext h) hwf hn)
 have HN:=Lib.hid hn
 have HLEN:=Lib.hid hok.signals
 obtain ⟨s,rfl,hs⟩:=hV
 have HS:=Lib.hid hs
 have hs1:=hs.one
 obtain ⟨sv,pv,cv,rfl,hS,hP,hC⟩:=hF
 have hone : [sv,pv,cv].all (·.oneCell')=true:=by simp [hS.one,hP.one,hC.one]
 have HSG:=Lib.hid hS
 have x1:=ext_alloc w (.cells [sv,pv,cv].toArray 26)
 have x2:=ext_alloc (w.alloc (.cells [sv,pv,cv].toArray 26)) (.cells (e.cells s).toArray 44)
 have hD:=(Blk.new w [sv,pv,cv].toArray 26).ext x2
 have hE:=Blk.new (w.alloc (.cells [sv,pv,cv].toArray 26)) (e.cells s).toArray 44
 have hX:=x1.trans x2
 simp only [World.size_alloc] at hE
 clear x1 x2 hS hP hC hok hs hwf hn
 obtain ⟨OUT,hout⟩ : ∃ o,needsM d e=o:=⟨_,rfl⟩
 have HOUT:=Lib.hid hout
 rw [hout]
 clear hout
 obtain ⟨q,hq⟩ : ∃ q,mayM d e=q:=⟨_,rfl⟩
 have HQ:=Lib.hid hq
 rw [hq] at HMY
 clear hq
 go_enter Tryz.func25,Tryz.ntmps25
 go_upto_region 1 with fail
 generalize (w.alloc _).alloc _=w0 at *
 have HD:=Lib.hid hD
 have HE:=Lib.hid hE
 have HX:=Lib.hid hX
 have d0:=hD.has
 have e0:=hE.has
 clear hD hE hX
 cases q
 ·obtain rfl:OUT=([],1):=by rw [← HOUT.out];unfold needsM;rw [HQ.out];rfl
  go_wp2_with (first | ((with_reducible show Jw (Op.load 26 _));refine wpList_load_has rfl 26 _ rfl rfl (d0) agg_Flat rfl ?_) | ((with_reducible show Jw (Op.load 44 _));refine wpList_load_has rfl 44 _ rfl rfl (e0) agg_E rfl ?_) | (go_at_call 55;refine (HMY.out w0 HX.out).mono ?_;rintro r w1 ⟨rfl,hx1⟩))
  refine bodyPost_ret (v:=.tuple #[.slice none 0 0,.int .i64 1]) (by simp [results,Tryz.results25,go_sem]) rfl ⟨_,rfl,IntRow.nil _ _,HX.out.trans hx1⟩
 ·obtain rfl:OUT=(setI (bitsM d.signals e),0):=by rw [← HOUT.out];unfold needsM;rw [HQ.out];rfl
  have hck:checkM d=0∧checkEM d.signals e=0:=by
   have h1:=HQ.out
   unfold mayM at h1
   simpa using h1
  have HLS:=Lib.hid (checkM_w hck.1)
  have HWS:=Lib.hid (checkEM_ws (fun x hx=>(checkM_w hck.1 x hx).2) hck.2).1
  have HBL:=Lib.hid (bitsM_length HLS.out e HWS.out)
  clear hck
  go_upto_region 3 with (first | ((with_reducible show Jw (Op.load 26 _));refine wpList_load_has rfl 26 _ rfl rfl (d0) agg_Flat rfl ?_) | ((with_reducible show Jw (Op.load 44 _));refine wpList_load_has rfl 44 _ rfl rfl (e0) agg_E rfl ?_) | (go_at_call 55;refine (HMY.out w0 HX.out).mono ?_;rintro r w1 ⟨rfl,hx1⟩))
  have HX1:=Lib.hid (HX.out.trans hx1)
  have d1:=(HD.out.ext hx1).has
  have e1:=(HE.out.ext hx1).has
  clear hx1 d0 e0
  go_wp2_with (first | ((with_reducible show Jw (Op.load 26 _));refine wpList_load_has rfl 26 _ rfl rfl (d1) agg_Flat rfl ?_) | ((with_reducible show Jw (Op.load 44 _));refine wpList_load_has rfl 44 _ rfl rfl (e1) agg_E rfl ?_) | (go_at_call 61;refine (bits_calls _ _ _ _ rfl (by simpa using hone) e s hs1 _).mono ?_;rintro r w6 ⟨E6,D6,hE6e,hD6e,rfl,rfl⟩;refine Hid.out ?_))
  refine Lib.hid ?_
  have hx6:=(ext_alloc w1 (.cells #[sv,pv,cv] 26)).trans (ext_alloc _ (.cells (e.cells s).toArray 44))
  have hbD:=(Blk.new w1 #[sv,pv,cv] 26).ext (ext_alloc _ (.cells (e.cells s).toArray 44))
  have hbE:=Blk.new (w1.alloc (.cells #[sv,pv,cv] 26)) (e.cells s).toArray 44
  simp only [World.size_alloc] at hbE
  have HX6:=Lib.hid (HX1.out.trans hx6)
  obtain ⟨D6,hD6⟩ : ∃ x,w1.heap.size=x:=⟨_,rfl⟩
  rw [hD6] at hbD hbE
  rw [hD6]
  clear hD6 hx6 d1 e1
  generalize (w1.alloc _).alloc _=w6 at *
  have HSO:=Lib.hid (sortedInts_calls leads_bits1 (bitsM d.signals e) w6 (bits1_seq d.signals HLS.out HLEN.out e w6.heap.size w w6 sv pv cv s D6 (D6 + 1) HSG.out HS.out hone HX6.out.size HX6.out hbD hbE (Nat.le_refl _) HWS.out) (by have:=HBL.out;have:=HN.out;omega))
  clear hbD hbE
  go_wp2_with (first | (go_at_call 60;refine HSO.out.mono ?_;rintro r w7 ⟨v7,rfl,hr7,hx7⟩;have HR7:=Lib.hid hr7;have HX7:=Lib.hid (HX6.out.trans hx7);clear hr7 hx7) | (go_at_call 59;refine (compact_calls _ _ _ _ HR7.out).mono ?_;rintro r w8 ⟨v8,rfl,ho8,hr8,hg8⟩) | ((with_reducible show bodyPost _ _ _ _ _ _);refine Hid.out ?_))
  refine Lib.hid ?_
  refine bodyPost_ret (v:=.tuple #[v8,.int .i64 0]) (by simp [results,Tryz.results25,go_sem]) rfl ⟨_,rfl,hr8.less HX6.out.size,Ext.grownO HX7.out hg8 (fun j hj=>Nat.le_trans HX6.out.size (HR7.out.at hj).1)⟩
/-! ### the document's answer for layer 9, in plain words -/
def partsR (op:Int) (len:Nat):Bool :=
 if op=1 ∨ op=2 then decide (len=0) else if op=3 ∨ op=4 ∨ op=8 then decide (len=1) else if op=5 then decide (len=2) else if op=6 then decide (len=3) else if op=7 then decide (1 ≤ len) else false
def fieldsR (ls:List Signal) (op w v sig hi lo n:Int):Bool :=
 if (op ≠ 1∧v ≠ 0) ∨ (¬(op=2 ∨ op=3)∧sig ≠ 0) ∨ (op ≠ 2∧(hi ≠ 0 ∨ lo ≠ 0)) ∨ (op ≠ 4∧op ≠ 5∧op ≠ 8∧n ≠ 0) then false
 else if op=1 then decide (0 ≤ w) && decide (w ≤ 64) && (decide (w=0) || holds w v)
 else if op=2 then slice ls sig hi lo
 else if op=3 then decide (0 ≤ sig) && decide (sig < ls.length)
 else if op=4 then decide (1 ≤ n) && decide (n ≤ 6)
 else if op=5 then decide (11 ≤ n) && decide (n ≤ 26)
 else if op=8 then decide (31 ≤ n) && decide (n ≤ 33) && decide (1 ≤ w) && decide (w ≤ 64)
 else true
theorem shape0_parts (ls:List Signal) (op w v sig hi lo n:Int) (len:Nat):shape0 ls op w v sig hi lo n len=(partsR op len && fieldsR ls op w v sig hi lo n):=by
 unfold shape0 partsR fieldsR
 generalize holds w v=hv
 generalize slice ls sig hi lo=sv
 by_cases h1:op=1
 ·subst h1;rw [Bool.eq_iff_iff];cases hv <;> simp <;> (try omega)
 by_cases h2:op=2
 ·subst h2;rw [Bool.eq_iff_iff];cases sv <;> simp <;> (try omega)
 by_cases h3:op=3
 ·subst h3;rw [Bool.eq_iff_iff];simp <;> (try omega)
 by_cases h4:op=4
 ·subst h4;rw [Bool.eq_iff_iff];simp <;> (try omega)
 by_cases h5:op=5
 ·subst h5;rw [Bool.eq_iff_iff];simp <;> (try omega)
 by_cases h6:op=6
 ·subst h6;rw [Bool.eq_iff_iff];simp <;> (try omega)
 by_cases h7:op=7
 ·subst h7;rw [Bool.eq_iff_iff];simp <;> (try omega)
 by_cases h8:op=8
 ·subst h8;rw [Bool.eq_iff_iff];simp <;> (try omega)
 simp [h1,h2,h3,h4,h5,h6,h7,h8]
/-! ### signals -/
def sigNum (x:Signal):Bool:=decide (1 ≤ x.w) && decide (x.w ≤ 64) && decide (1 ≤ x.kind) && decide (x.kind ≤ 4) && (decide (x.kind=4) || decide (x.init=0))
theorem sigOk_eq (seen:List (List UInt8)) (x:Signal):sigOk seen x=(!(seen.contains x.name.data.toList) && sigNum x):=by
 unfold sigOk sigNum;simp only [Bool.and_assoc]
theorem sigsOk_iff (ls:List Signal):∀ seen,sigsOk seen ls=true ↔ ∀ k (h:k < ls.length),(ls[k].name.data.toList ∉ seen)∧sigNum ls[k]=true∧∀ j (hj:j < k),ls[j].name.data.toList ≠ ls[k].name.data.toList:=by
 induction ls with
 | nil=>intro seen;simp [sigsOk]
 | cons x l ih =>
  intro seen
  rw [sigsOk,sigOk_eq,Bool.and_eq_true,Bool.and_eq_true,ih]
  simp only [Bool.not_eq_true',List.contains_eq_mem,decide_eq_false_iff_not,List.mem_cons,not_or]
  constructor
  ·rintro ⟨⟨h1,h2⟩,h3⟩ k hk
   cases k with
   | zero=>exact ⟨h1,h2,fun j hj=>absurd hj (by omega)⟩
   | succ k =>
    obtain ⟨⟨g0,g1⟩,g2,g3⟩:=h3 k (by simpa using hk)
    refine ⟨g1,g2,fun j hj=>?_⟩
    cases j with
    | zero=>simp only [Jb,Jc];exact fun h=>g0 h.symm
    | succ j=>simpa using g3 j (by omega)
  ·intro h
   have h0:=h 0 (by simp)
   refine ⟨⟨h0.1,h0.2.1⟩,fun k hk=>?_⟩
   obtain ⟨g1,g2,g3⟩:=h (k + 1) (by simpa using hk)
   refine ⟨⟨?_,g1⟩,g2,fun j hj=>?_⟩
   ·have:=g3 0 (by omega)
    simp only [Jb,Jc] at this
    exact fun h=>this h.symm
   ·simpa using g3 (j + 1) (by omega)
/-! ### how many bits -/
def bits5 (l:List Signal):Nat:=sumBy (fun s=>(min (max s.w 0) 5000).toNat) l
theorem bits5_iff (l:List Signal):∀ a:Nat,a + bits5 l ≤ 4096 ↔ a + bitsN l ≤ 4096:=by
 unfold bits5 bitsN
 induction l with
 | nil=>intro a;simp [sumBy]
 | cons x l ih =>
  intro a
  simp only [sumBy]
  by_cases h:x.w ≤ 4097
  ·have e:(min (max x.w 0) 5000).toNat=(max 0 (min x.w 4097)).toNat:=by omega
   rw [e,← Nat.add_assoc,← Nat.add_assoc]
   exact ih _
  ·omega
theorem bits5_le (l:List Signal):bits5 l ≤ 5000 * l.length:=by
 unfold bits5
 induction l with
 | nil=>simp [sumBy]
 | cons x l ih=>simp only [sumBy,List.length_cons];omega
/-! ### expressions, sized -/
theorem sizeE_bit (e:E):sizeE e (-1)=if 1 < own e then .error 91 else sizeE e 1:=by
 rw [sizeE_eq,sizeE_eq e 1];by_cases h:1 < own e <;> simp [h]
def underM (x:E) (ws:List Int):Except Int E:=match sizeE.sizeL x.l ws with | .error f=>.error f | .ok l'=>.ok ⟨x.op,x.w,x.v,x.sig,x.hi,x.lo,x.n,l'⟩
def unaryM (x:E) (w:Int):Except Int E:=if x.n ≤ 2 then underM x [w] else if w ≠ 1 then .error 90 else if x.n=6 then underM x [-1] else underM x [0]
def binaryM (x:E) (w:Int):Except Int E :=
 if x.n ≤ 16 then underM x [w,w] else if x.n ≤ 18 then underM x [w,0] else if w ≠ 1 then .error 90 else if 25 ≤ x.n then underM x [-1,-1] else underM x [told (own.fst x.l) 32,told (own.fst x.l) 32]
def extM (e:E) (w2:Int):Except Int E :=
 if e.w ≠ w2 then .error 90
 else match underM ⟨e.op,w2,e.v,e.sig,e.hi,e.lo,e.n,e.l⟩ [0] with
  | .error f=>.error f
  | .ok y=>if (e.n ≠ 33∧w2 < sizeE.hdW y.l) ∨ (e.n=33∧sizeE.hdW y.l < w2) then .error 90 else .ok y
def sizedM (e:E) (w2:Int):Except Int E :=
 if e.op=1 then (if e.w ≠ 0∧e.w ≠ w2 then .error 90 else if e.w=0∧holds w2 e.v=false then .error 92 else .ok ⟨e.op,w2,e.v,e.sig,e.hi,e.lo,e.n,e.l⟩)
 else if e.op=2 ∨ e.op=3 then (if own e ≠ w2 then .error 90 else underM ⟨e.op,w2,e.v,e.sig,e.hi,e.lo,e.n,e.l⟩ [0])
 else if e.op=4 then unaryM ⟨e.op,w2,e.v,e.sig,e.hi,e.lo,e.n,e.l⟩ w2
 else if e.op=5 then binaryM ⟨e.op,w2,e.v,e.sig,e.hi,e.lo,e.n,e.l⟩ w2
 else if e.op=6 then underM ⟨e.op,w2,e.v,e.sig,e.hi,e.lo,e.n,e.l⟩ [-1,w2,w2]
 else if e.op=7 then (if own e=0 ∨ own e ≠ w2 ∨ 64 < own e then .error 90 else underM ⟨e.op,w2,e.v,e.sig,e.hi,e.lo,e.n,e.l⟩ (List.replicate e.l.length 0))
 else extM e w2
theorem shape_inv {ls:List Signal} {e:E} (h:shape ls e=true) :
  (e.op=1∧e.l=[]∧0 ≤ e.w∧e.w ≤ 64∧e.sig=0∧e.hi=0∧e.lo=0∧e.n=0) ∨ (e.op=2∧e.l=[]∧slice ls e.sig e.hi e.lo=true) ∨ (e.op=3∧e.l.length=1) ∨ (e.op=4∧e.l.length=1∧1 ≤ e.n∧e.n ≤ 6) ∨
  (e.op=5∧e.l.length=2∧11 ≤ e.n∧e.n ≤ 26) ∨ (e.op=6∧e.l.length=3) ∨ (e.op=7∧0 < e.l.length) ∨ (e.op=8∧e.l.length=1∧31 ≤ e.n∧e.n ≤ 33∧1 ≤ e.w∧e.w ≤ 64):=by
 rw [shape_eq,Bool.and_eq_true] at h
 have h0:=h.1
 unfold shape0 at h0
 repeat' split at h0
 all_goals try simp only [Bool.and_eq_true,decide_eq_true_eq] at h0
 ·exact .inl ⟨by assumption,List.eq_nil_of_length_eq_zero (by omega),by omega,by omega,by omega,by omega,by omega,by omega⟩
 ·exact .inr (.inl ⟨by assumption,List.eq_nil_of_length_eq_zero (by omega),h0.1.2⟩)
 ·exact .inr (.inr (.inl ⟨by assumption,by omega⟩))
 ·exact .inr (.inr (.inr (.inl ⟨by assumption,by omega,by omega,by omega⟩)))
 ·exact .inr (.inr (.inr (.inr (.inl ⟨by assumption,by omega,by omega,by omega⟩))))
 ·exact .inr (.inr (.inr (.inr (.inr (.inl ⟨by assumption,by omega⟩)))))
 ·exact .inr (.inr (.inr (.inr (.inr (.inr (.inl ⟨by assumption,by omega⟩))))))
 ·exact .inr (.inr (.inr (.inr (.inr (.inr (.inr ⟨by assumption,by omega,by omega,by omega,by omega,by omega⟩))))))
 ·cases h0
theorem sizeE_ref {ls:List Signal} (e:E) (w:Int) (hw:0 ≤ w) (hs:shape ls e=true):sizeE e w=sizedM e (told w (told (own e) 32)):=by
 rw [sizeE_eq,if_neg (by omega),if_neg (by omega : ¬ w = -1)]
 generalize hw2:told w (told (own e) 32)=w2
 have ho:=own_eq e
 obtain ⟨op,ew,v,sig,hi,lo,n,l⟩:=e
 rcases shape_inv hs with h | h | h | h | h | h | h | h <;> simp only at h ho ⊢
 ·obtain ⟨rfl,rfl,h3,h4,rfl,rfl,rfl,rfl⟩:=h
  by_cases h0:ew=0
  ·subst h0
   cases hh:holds w2 v <;> simp [sizedM,hh]
  ·simp only [sizedM,wantedL,ho]
   by_cases h5:ew=w2
   ·subst h5;simp [h0,sizeE.sizeL]
   ·simp [h0,h5]
 ·obtain ⟨rfl,rfl,h3⟩:=h
  simp only [sizedM,wantedL,underM]
  by_cases h5:own ⟨2,ew,v,sig,hi,lo,n,[]⟩=w2 <;> simp [h5,sizeE.sizeL]
 ·obtain ⟨rfl,h2⟩:=h
  simp only [sizedM,wantedL,underM]
  by_cases h5:own ⟨3,ew,v,sig,hi,lo,n,l⟩=w2
  ·simp [h5,h2]
   cases sizeE.sizeL l [0] <;> first | rfl | simp
  ·simp [h5]
 ·obtain ⟨rfl,h2,h3,h4⟩:=h
  have hw4:wantedL ⟨4,ew,v,sig,hi,lo,n,l⟩ w2=(if n ≤ 2 then some [w2] else if w2 ≠ 1 then none else if n=6 then some [-1] else some [0]):=by
   unfold wantedL
   simp only [h2]
   repeat' split
   all_goals first | rfl | (exfalso;omega) | (exfalso;simp_all;done) | (exfalso;simp_all;omega)
  rw [hw4]
  by_cases h5:n ≤ 2
  ·simp [sizedM,unaryM,underM,h5];cases sizeE.sizeL l [w2] <;> first | rfl | simp
  ·by_cases h7:w2=1
   ·by_cases h6:n=6
    ·simp [sizedM,unaryM,underM,h6,h7];cases sizeE.sizeL l [-1] <;> first | rfl | simp
    ·simp [sizedM,unaryM,underM,h5,h6,h7];cases sizeE.sizeL l [0] <;> first | rfl | simp
   ·simp [sizedM,unaryM,underM,h5,h7]
 ·obtain ⟨rfl,h2,h3,h4⟩:=h
  have hw5:wantedL ⟨5,ew,v,sig,hi,lo,n,l⟩ w2=(if n ≤ 16 then some [w2,w2] else if n ≤ 18 then some [w2,0] else if w2 ≠ 1 then none else if 25 ≤ n then some [-1,-1] else some [told (own.fst l) 32,told (own.fst l) 32]):=by
   unfold wantedL
   simp only [h2]
   repeat' split
   all_goals first | rfl | (exfalso;omega) | (exfalso;simp_all;done) | (exfalso;simp_all;omega)
  rw [hw5]
  by_cases h5:n ≤ 16
  ·simp [sizedM,binaryM,underM,h5];cases sizeE.sizeL l [w2,w2] <;> first | rfl | simp
  ·by_cases h6:n ≤ 18
   ·simp [sizedM,binaryM,underM,h5,h6];cases sizeE.sizeL l [w2,0] <;> first | rfl | simp
   ·by_cases h8:w2=1
    ·by_cases h7:25 ≤ n
     ·simp [sizedM,binaryM,underM,h5,h6,h7,h8];cases sizeE.sizeL l [-1,-1] <;> first | rfl | simp
     ·simp [sizedM,binaryM,underM,h5,h6,h7,h8];cases sizeE.sizeL l _ <;> first | rfl | simp
    ·simp [sizedM,binaryM,underM,h5,h6,h8]
 ·obtain ⟨rfl,h2⟩:=h
  simp only [sizedM,wantedL,underM,h2]
  simp [List.replicate]
  cases sizeE.sizeL l [-1,w2,w2] <;> first | rfl | simp
 ·obtain ⟨rfl,h2⟩:=h
  simp only [sizedM,wantedL,underM]
  by_cases h5:own ⟨7,ew,v,sig,hi,lo,n,l⟩=0 ∨ own ⟨7,ew,v,sig,hi,lo,n,l⟩ ≠ w2 ∨ 64 < own ⟨7,ew,v,sig,hi,lo,n,l⟩
  ·simp [h5]
  ·simp [h5]
   cases sizeE.sizeL l _ <;> first | rfl | simp
 ·obtain ⟨rfl,h2,h3,h4,h5,h6⟩:=h
  simp only [sizedM,wantedL,extM,underM,ho,h2]
  by_cases h7:ew=w2
  ·subst h7
   simp
   cases sizeE.sizeL l [0] with
   | error f=>simp
   | ok y =>
    simp only
    by_cases hc:n=33
    ·subst hc;simp
    ·simp [hc]
  ·simp [h7]
/-! ### statements, sized: the first error stays -/
theorem accum_append {α β σ : Type} (f : σ→α→β × σ) (l r:List α):∀ s,accum f s (l ++ r)=((accum f s l).1 ++ (accum f (accum f s l).2 r).1,(accum f (accum f s l).2 r).2):=by
 induction l with
 | nil=>intro s;rfl
 | cons y l ih=>intro s;simp only [List.cons_append,accum,ih]
theorem accum_stays {α β : Type} (f:Int→α→β × Int) (l:List α) (hf:∀ x ∈ l,∀ s,s ≠ 0→(f s x).2=s) (s:Int) (hs:s ≠ 0):(accum f s l).2=s:=by
 induction l with
 | nil=>rfl
 | cons x l ih =>
  simp only [accum]
  rw [hf x (by simp) s hs]
  exact ih fun y hy=>hf y (by simp [hy])
theorem accum_stop {α β : Type} (f:Int→α→β × Int) (l:List α) (hf:∀ x ∈ l,∀ s,s ≠ 0→(f s x).2=s) (s:Int) (k:Nat) (h:(accum f s (l.take k)).2 ≠ 0):(accum f s l).2=(accum f s (l.take k)).2:=by
 have e:=accum_append f (l.take k) (l.drop k) s
 rw [List.take_append_drop] at e
 rw [e]
 exact accum_stays f _ (fun x hx=>hf x (List.mem_of_mem_drop hx)) _ h
theorem szE_err (e:E) (w s:Int) (h:s ≠ 0):(szE s e w).2=s:=by unfold szE;rw [if_pos h]
theorem szEs_err (w s:Int) (l:List E) (h:s ≠ 0):(szEs s w l).2=s:=accum_stays _ l (fun x _ s h=>szE_err x w s h) s h
theorem szT_err (ls:List Signal) (ck:Bool) (t:T):∀ lab s:Int,s ≠ 0→(szT ls ck t lab s).2=s:=by
 induction t using T.ind with
 | h t ih =>
  intro lab s h
  rw [szT_eq]
  have h0:szErr0 ls ck t s=s:=by unfold szErr0;rw [if_neg (fun h'=>h h'.2.1)]
  rw [h0,szEs_err _ _ _ h]
  exact accum_stays _ _ (fun x hx s h=>ih x hx _ s h) s h
theorem szTL_err (ls:List Signal) (ck:Bool) (l:List T) (lab s:Int) (h:s ≠ 0):(szTL ls ck lab s l).2=s:=accum_stays _ l (fun x _ s h=>szT_err ls ck x lab s h) s h
theorem szTL_stop (ls:List Signal) (ck:Bool) (l:List T) (lab s:Int) (k:Nat) (h:(szTL ls ck lab s (l.take k)).2 ≠ 0):(szTL ls ck lab s l).2=(szTL ls ck lab s (l.take k)).2 :=
 accum_stop _ l (fun x _ s h=>szT_err ls ck x lab s h) s k h
theorem szEs_stop (w s:Int) (l:List E) (k:Nat) (h:(szEs s w (l.take k)).2 ≠ 0):(szEs s w l).2=(szEs s w (l.take k)).2:=accum_stop _ l (fun x _ s h=>szE_err x w s h) s k h
theorem szPs_stop (ls:List Signal) (s:Int) (l:List Proc) (k:Nat) (h:(szPs ls s (l.take k)).2 ≠ 0):(szPs ls s l).2=(szPs ls s (l.take k)).2 :=
 accum_stop (fun s (p:Proc)=>((⟨p.clocked,(szTL ls p.clocked 0 s p.l).1⟩ : Proc),(szTL ls p.clocked 0 s p.l).2)) l (fun x _ s h=>szTL_err ls x.clocked x.l 0 s h) s k h
theorem szCs_err (l:List Chk) (s:Int) (h:s ≠ 0):(szCs s l).2=s:=accum_stays (fun s (c:Chk)=>((⟨c.name,(szE s c.e (-1)).1⟩ : Chk),(szE s c.e (-1)).2)) l (fun x _ s h=>szE_err x.e (-1) s h) s h
theorem szCs_stop (s:Int) (l:List Chk) (k:Nat) (h:(szCs s (l.take k)).2 ≠ 0):(szCs s l).2=(szCs s (l.take k)).2:=accum_stop (fun s (c:Chk)=>((⟨c.name,(szE s c.e (-1)).1⟩ : Chk),(szE s c.e (-1)).2)) l (fun x _ s h=>szE_err x.e (-1) s h) s k h
theorem accum_congr {α β σ : Type} (f g : σ→α→β × σ) (l:List α) (h:∀ x ∈ l,∀ s,f s x=g s x):∀ s,accum f s l=accum g s l:=by
 induction l with
 | nil=>intro s;rfl
 | cons x l ih=>intro s;simp only [accum,h x (by simp),ih (fun y hy=>h y (by simp [hy]))]
theorem szT_lab (ls:List Signal) (ck:Bool) (t:T):shapeT ls t=true→∀ a b s:Int,szT ls ck t a s=szT ls ck t b s:=by
 induction t using T.ind with
 | h t ih =>
  intro ht a b s
  have hl:∀ l:List T,(∀ x ∈ l,x ∈ t.l)→l.all (shapeT ls)=true→∀ s,szTL ls ck a s l=szTL ls ck b s l:=by
   intro l hm ha s
   exact accum_congr _ _ _ (fun x hx s=>ih x (hm x hx) (List.all_eq_true.1 ha x hx) a b s) s
  rw [szT_eq,szT_eq]
  rw [shapeT_eq] at ht
  split at ht
  ·cases ht
  ·split at ht
   ·rename_i h3
    have hw:szW t a=szW t b:=by unfold szW;rw [if_neg (by omega),if_neg (by omega),if_pos h3,if_neg (by omega),if_neg (by omega),if_pos h3]
    rw [if_pos h3,if_pos h3,hw]
   ·split at ht
    ·rename_i h3 h1
     have hw:szW t a=szW t b:=by unfold szW;rw [if_pos h1,if_pos h1]
     simp only [Bool.and_eq_true,decide_eq_true_eq] at ht
     have hn:t.l=[]:=List.eq_nil_of_length_eq_zero ht.1.2
     rw [if_neg h3,if_neg h3,hw,hn];rfl
    ·split at ht
     ·rename_i h3 h1 h2
      have hw:szW t a=szW t b:=by unfold szW;rw [if_neg h1,if_pos h2,if_neg h1,if_pos h2]
      rw [Bool.and_eq_true] at ht
      rw [if_neg h3,if_neg h3,hw,hl t.l (fun _ h=>h) ht.2]
     ·split at ht
      ·rename_i h3 h1 h2 h5
       simp only [Bool.and_eq_true,decide_eq_true_eq] at ht
       have hn:t.e=[]:=List.eq_nil_of_length_eq_zero ht.1
       have e0:∀ w s,szEs s w []=([],s):=fun _ _=>rfl
       rw [if_neg h3,if_neg h3,hn,e0,e0,hl t.l (fun _ h=>h) ht.2]
      ·cases ht
theorem szTL_lab {ls:List Signal} {ck:Bool} {l:List T} (h:l.all (shapeT ls)=true) (a b s:Int):szTL ls ck a s l=szTL ls ck b s l :=
 accum_congr _ _ _ (fun x hx s=>szT_lab ls ck x (List.all_eq_true.1 h x hx) a b s) s
end Go.Proofs.YtemabheegnngdaaGreat
