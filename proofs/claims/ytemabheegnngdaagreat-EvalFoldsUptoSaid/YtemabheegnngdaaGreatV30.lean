/- Laws and walks that a claim of this seat leans on: R10g, FoldM, EvLawL, MarkB, R10h, R10a, R10i. -/
import Derived.Test.YtemabheegnngdaaGreatV29
import Derived.Test.YtemabheegnngdaaGreatV21
import Derived.Test.YtemabheegnngdaaGreatV24
import Derived.Test.YtemabheegnngdaaGreatV12
import Derived.Test.YtemabheegnngdaaGreatV20
import Derived.Test.YtemabheegnngdaaGreatV06
import Derived.Test.YtemabheegnngdaaGreatVStmtS
import Derived.Test.YtemabheegnngdaaGreatV14
import Derived.Test.YtemabheegnngdaaGreatV01
import Derived.Test.YtemabheegnngdaaGreatV00
set_option linter.all false
namespace Go.Proofs.YtemabheegnngdaaGreat
open Go.RowKit
set_option maxRecDepth 100000 in
set_option maxHeartbeats 2000000 in
theorem Fold_callsR (d:Flat) (v:Value) (e:E) (cs:List Value) (w:World) (hF:FlatV w v d) (hok:d.ok) (hV:VE w cs e) (hwf:e.wf) (hn:nodes e ≤ 1048576) :
  Calls Tryz.prog 24 #[v,.agg cs.toArray] w fun r w'=>∃ cs',r=.returned (.tuple #[.agg cs'.toArray,.int .i64 (foldR d e).2])∧FV VE w.heap.size w' cs' (foldR d e).1∧Ext w w':=by
 have HFW:=Lib.hid (fun W (h:Ext w W)=>hF.ext h)
 have HVW:=Lib.hid (fun W (h:Ext w W)=>hV.ext h)
 have HCK:=Lib.hid (fun W (h:Ext w W)=>Check_callsR d v W (hF.ext h) hok)
 have HCE:=Lib.hid (fun W (h:Ext w W)=>CheckE_callsR d v e cs W (hF.ext h) hok (hV.ext h) hwf hn)
 have HN:=Lib.hid hn
 have HWF:=Lib.hid hwf
 have h8:cs.length=8:=by obtain ⟨s,rfl,-⟩:=hV;rfl
 obtain ⟨sv,pv,cv,rfl,hS,hP,hC⟩:=hF
 have x1:=ext_alloc w (.cells [sv,pv,cv].toArray 26)
 have x2:=ext_alloc (w.alloc (.cells [sv,pv,cv].toArray 26)) (.cells cs.toArray 44)
 have x3:=ext_alloc ((w.alloc (.cells [sv,pv,cv].toArray 26)).alloc (.cells cs.toArray 44)) (.cells (zE.cells (.slice none 0 0)).toArray 44)
 have hD:=((Blk.new w [sv,pv,cv].toArray 26).ext x2).ext x3
 have hE:=(Blk.new (w.alloc (.cells [sv,pv,cv].toArray 26)) cs.toArray 44).ext x3
 have hR:=Blk.new ((w.alloc (.cells [sv,pv,cv].toArray 26)).alloc (.cells cs.toArray 44)) (zE.cells (.slice none 0 0)).toArray 44
 have hX:=(x1.trans x2).trans x3
 have HSZ:=Lib.hid (show (((w.alloc (.cells [sv,pv,cv].toArray 26)).alloc (.cells cs.toArray 44)).alloc (.cells (zE.cells (.slice none 0 0)).toArray 44)).heap.size=w.heap.size + 1 + 1 + 1 by simp only [World.size_alloc])
 simp only [World.size_alloc] at hE hR
 clear x1 x2 x3 hS hP hC hok hV hwf hn
 obtain ⟨OUT,hout⟩ : ∃ o,foldR d e=o:=⟨_,rfl⟩
 have HOUT:=Lib.hid hout
 rw [hout]
 clear hout
 rw [zE_cells] at *
 go_enter Tryz.func24,Tryz.ntmps24
 go_upto_region 1 with fail
 generalize ((w.alloc _).alloc _).alloc _=w0 at *
 have HD:=Lib.hid hD
 have HE:=Lib.hid hE
 have HR:=Lib.hid hR
 have HX:=Lib.hid hX
 have d0:=hD.has
 clear hD hE hR hX
 by_cases hck:checkM d=0
 case neg =>
  have c1:(checkM d != 0)=true:=by rw [bne_iff_ne];exact hck
  obtain rfl:OUT=(zE,1):=by rw [← HOUT.out];unfold foldR mayM;rw [decide_eq_false hck];rfl
  clear hck
  go_wp2_with (first | ((with_reducible show Jw (Op.load 26 _));refine wpList_load_has rfl 26 _ rfl rfl (d0) agg_Flat rfl ?_) | (go_at_call 54;refine (HCK.out w0 HX.out).mono ?_;rintro r w1 ⟨rfl,hx1⟩) | ((with_reducible show Jw (Op.store 44 _ _));refine wpList_store_blk rfl 44 _ _ rfl (HR.out.ext hx1) rfl (cs:=zE.cells (.slice none 0 0)) (rfl) agg_E (rfl) rfl (rfl) ?_;intro w6 hb6 hg6) | ((with_reducible show bodyPost _ _ _ _ _ _);refine Hid.out ?_))
  refine Lib.hid ?_
  exact post_ret_blk2 rfl rfl rfl hb6.has agg_E rfl rfl ⟨_,rfl,fv_leafE _ _ _ rfl,(HX.out.trans hx1).grown hg6 (by omega)⟩
 have HCK2:=Lib.hid (HCK.out w0 HX.out)
 rw [hck] at HCK2
 by_cases hce:checkEM d.signals e=0
 case neg =>
  have c1:(checkEM d.signals e != 0)=true:=by rw [bne_iff_ne];exact hce
  obtain rfl:OUT=(zE,1):=by rw [← HOUT.out];unfold foldR mayM;rw [decide_eq_false hce,Bool.and_false];rfl
  clear hce hck
  go_wp2_with (first | (go_at_call 54;refine HCK2.out.mono ?_;rintro r w1 ⟨rfl,hx1⟩;have d1:=(HD.out.ext hx1).has;have e1:=(HE.out.ext hx1).has;clear d0) | ((with_reducible show Jw (Op.load 26 _));refine wpList_load_has rfl 26 _ rfl rfl (d0) agg_Flat rfl ?_) | ((with_reducible show Jw (Op.load 26 _));refine wpList_load_has rfl 26 _ rfl rfl (d1) agg_Flat rfl ?_) | ((with_reducible show Jw (Op.load 44 _));refine wpList_load_has rfl 44 _ rfl rfl (e1) agg_E h8 ?_) | (go_at_call 30;refine (HCE.out w1 (HX.out.trans hx1)).mono ?_;rintro r w2 ⟨rfl,hx2⟩) | ((with_reducible show Jw (Op.store 44 _ _));refine wpList_store_blk rfl 44 _ _ rfl ((HR.out.ext hx1).ext hx2) rfl (cs:=zE.cells (.slice none 0 0)) (rfl) agg_E (rfl) rfl (rfl) ?_;intro w6 hb6 hg6) | ((with_reducible show bodyPost _ _ _ _ _ _);refine Hid.out ?_))
  refine Lib.hid ?_
  exact post_ret_blk2 rfl rfl rfl hb6.has agg_E rfl rfl ⟨_,rfl,fv_leafE _ _ _ rfl,(HX.out.trans (hx1.trans hx2)).grown hg6 (by omega)⟩
 obtain rfl:OUT=(foldM d.signals e,0):=by rw [← HOUT.out];unfold foldR mayM;rw [decide_eq_true hck,decide_eq_true hce];rfl
 have hls:=checkM_w hck
 have hws:=(checkEM_ws (fun x hx=>(hls x hx).2) hce).1
 have HFO:=Lib.hid (fun W (h:Ext w W)=>fold10_calls d hls e hws HWF.out _ cs W (HFW.out W h) (HVW.out W h) HN.out)
 rw [hce] at HCE
 clear hls hws hce hck
 go_wp2_with (first | (go_at_call 54;refine HCK2.out.mono ?_;rintro r w1 ⟨rfl,hx1⟩;have d1:=(HD.out.ext hx1).has;have e1:=(HE.out.ext hx1).has;clear d0) | ((with_reducible show Jw (Op.load 26 _));refine wpList_load_has rfl 26 _ rfl rfl (d0) agg_Flat rfl ?_) | (go_at_call 30;refine (HCE.out w1 (HX.out.trans hx1)).mono ?_;rintro r w2 ⟨rfl,hx2⟩;have d2:=(HD.out.ext (hx1.trans hx2)).has;have e2:=(HE.out.ext (hx1.trans hx2)).has;clear d1 e1) | ((with_reducible show Jw (Op.load 26 _));refine wpList_load_has rfl 26 _ rfl rfl (d1) agg_Flat rfl ?_) | ((with_reducible show Jw (Op.load 44 _));refine wpList_load_has rfl 44 _ rfl rfl (e1) agg_E h8 ?_) | ((with_reducible show Jw (Op.load 26 _));refine wpList_load_has rfl 26 _ rfl rfl (d2) agg_Flat rfl ?_) | ((with_reducible show Jw (Op.load 44 _));refine wpList_load_has rfl 44 _ rfl rfl (e2) agg_E h8 ?_) | (go_at_call 58;refine (HFO.out w2 (HX.out.trans (hx1.trans hx2))).mono ?_;rintro r w3 ⟨cs3,rfl,hfv3,hx3⟩;have HFV3:=Lib.hid hfv3;clear hfv3) | ((with_reducible show Jw (Op.store 44 _ _));refine wpList_store_blk rfl 44 _ _ rfl (HR.out.ext ((hx1.trans hx2).trans hx3)) rfl (cs:=cs3) (rfl) agg_E (HFV3.out.lenE) rfl (HFV3.out.oneE) ?_;intro w6 hb6 hg6) | ((with_reducible show bodyPost _ _ _ _ _ _);refine Hid.out ?_))
 refine Lib.hid ?_
 have hs1:=hx1.size
 have hs2:=hx2.size
 have hz:=HSZ.out
 have hf6:=FV.since HFV3.out (Since.of_grown hg6 (by omega))
 have hf7:=FV.mono (N:=w.heap.size) hf6 (by omega)
 exact post_ret_blk2 rfl rfl rfl hb6.has agg_E HFV3.out.lenE rfl ⟨_,rfl,hf7,(HX.out.trans ((hx1.trans hx2).trans hx3)).grown hg6 (by omega)⟩
open Go.RowKit
open Go.RowKit
theorem bitsM_range {ls:List Signal} (hls:∀ x ∈ ls,1 ≤ x.w∧x.w ≤ 64) (e:E):WS ls e→∀ x ∈ bitsM ls e,0 ≤ x∧x < sumW ls ls.length:=by
 induction e using E.ind with
 | h e ih =>
  intro h x hx
  obtain ⟨h0,hp⟩:=(WS_iff ls e).1 h
  rw [bitsM_eq hls h,List.mem_append] at hx
  rcases hx with hx | hx
  ·obtain ⟨s0,s1,s2,s3,s4,s5,s6,s7⟩:=ws_sig hls h
   unfold ownB at hx
   obtain ⟨j,hj,rfl⟩:=List.mem_map.1 hx
   rw [List.mem_range] at hj
   unfold cntB at hj
   have hop:e.op=2 ∨ e.op=3:=by
    by_cases o2:e.op=2
    ·exact .inl o2
    ·by_cases o3:e.op=3
     ·exact .inr o3
     ·exfalso
      unfold hi0 lo0 at hj
      rw [if_neg o2,if_neg o2,if_neg o3] at hj
      simp at hj
   have hlt:=s7 hop
   obtain ⟨k,hk⟩:=Int.eq_ofNat_of_zero_le s0
   have hkl:k < ls.length:=by omega
   have hsw:sigW ls e.sig=ls[k].w:=by rw [hk];simp [sigW,List.getElem?_eq_getElem hkl]
   have hhi:hi0 ls e < sigW ls e.sig:=by
    unfold hi0
    rcases hop with o2 | o3
    ·rw [if_pos o2]
     unfold wsN at h0
     rcases h0 with h0 | ⟨-,-,hs,-⟩ | h0 | h0 | h0 | h0 | h0 | h0
     case inr.inl=>exact (slice_le ls (fun x hx=>(hls x hx).2) hs).2.2.2.2.1
     all_goals (exfalso;have:=h0.1;omega)
    ·rw [if_neg (by omega),if_pos o3];omega
   have hm:=sumW_mono ls hls (k + 1) ls.length (by omega) (Nat.le_refl _)
   have hs:=sumW_succ ls k hkl
   have h0':=(sumW_le ls hls k (by omega)).1
   rw [show e.sig.toNat=k by omega]
   omega
  ·obtain ⟨l,hl,hxl⟩:=List.mem_flatten.1 hx
   obtain ⟨y,hy,rfl⟩:=List.mem_map.1 hl
   exact ih y hy (hp y hy) x hxl
open Go.RowKit
/-! ### rows of marks -/
abbrev Bools (w:World) (v:Value) (l:List Bool):Prop:=Sl 1 (fun (x:Bool) b o=>Has w b o [.bool x]) v l
def BoolRow (N:Nat) (v:Value) (l:List Bool) (w:World):Prop:=w.ownsRow N 4 1 v l.length (l.map (Value.bool))
theorem BoolRow.at {N:Nat} {v:Value} {l:List Bool} {w:World} (h:BoolRow N v l w) {k:Nat} (hk:v.ownBlock=some k):N ≤ k∧∃ cur,w.heap[k]? = some (.cells cur 4 (0,0)):=by
 rcases h.2 with ⟨rfl,h0⟩ | ⟨g,cap,cur,rfl,hb,hg,-⟩
 ·cases hk
 ·cases hk;exact ⟨hb,cur,hg⟩
theorem BoolRow.keep {N:Nat} {v:Value} {l:List Bool} {w w':World} (h:BoolRow N v l w) (hk:∀ k,v.ownBlock=some k→∀ o,w.heap[k]? = some o→w'.heap[k]? = some o):BoolRow N v l w':=by
 refine ⟨h.1,?_⟩
 rcases h.2 with hn | ⟨g,cap,cur,rfl,hb,hg,rest⟩
 ·exact .inl hn
 ·exact .inr ⟨g,cap,cur,rfl,hb,hk g rfl _ hg,rest⟩
theorem BoolRow.ext {N:Nat} {v:Value} {l:List Bool} {w w':World} (h:BoolRow N v l w) (hx:Ext w w'):BoolRow N v l w' :=
 h.keep fun k _ _ ho=>(hx.block k (Array.getElem?_eq_some_iff.1 ho).1).trans ho
theorem flatB1 (l:List Bool):(l.map fun x=>[Value.bool x]).flatten=l.map (Value.bool):=by
 induction l with
 | nil=>rfl
 | cons x l ih=>simp only [List.map_cons,List.flatten_cons,ih];rfl
theorem BoolRow.cells {N:Nat} {v:Value} {l:List Bool} {w:World} (h:BoolRow N v l w):Bools w v l:=by
 rcases h.2 with ⟨rfl,h0⟩ | ⟨g,cap,cur,rfl,hb,hg,hnc,hcm,hcs,htake⟩
 ·obtain rfl:l=[]:=List.eq_nil_of_length_eq_zero h0
  exact Sl.nil _ _
 ·refine ⟨g,0,⟨_,cap,rfl,hnc,hcm,fun _=>rfl⟩,rows_flat (f:=fun x=>[Value.bool x]) (fun _=>rfl) l 0 ?_⟩
  have:=flat_own (N:=N) (cap:=cap) (size:=1) hg htake
  rw [flatB1];exact this
theorem BoolRow.open1 {N:Nat} {v:Value} {l:List Bool} {w:World} (h:BoolRow N v l w) (hl:0 < l.length):∃ g cap,v=.slice (some ⟨g,0,none⟩) l.length cap∧N ≤ g∧∀ i x,l[i]? = some x→w.cell? ⟨g,i,none⟩=some (.bool x):=by
 rcases h.2 with ⟨rfl,h0⟩ | ⟨g,cap,cur,rfl,hb,hg,hnc,hcm,hcs,htake⟩
 ·omega
 ·refine ⟨g,cap,rfl,hb,fun i x hx=>?_⟩
  have:=flat_own (N:=N) (cap:=cap) (size:=1) hg htake i (.bool x) (by simp [hx])
  rwa [Nat.zero_add] at this
theorem BoolRow.ofBlk {N g:Nat} {l:List Bool} {w:World} (h:Blk w g (l.map (Value.bool)).toArray 4) (hN:N ≤ g) (hm:l.length ≤ 9223372036854775807):BoolRow N (.slice (some ⟨g,0,none⟩) l.length l.length) l w :=
 ⟨by simp,.inr ⟨g,l.length,_,rfl,hN,h,Nat.le_refl _,by simpa [maxLen] using hm,by simp,by rw [Nat.mul_one];exact List.take_of_length_le (by simp)⟩⟩
theorem BoolRow.set {N g cap:Nat} {n:Nat} {l:List Bool} {w:World} (h:BoolRow N (.slice (some ⟨g,0,none⟩) n cap) l w) (j:Nat) (hj:j < l.length) (x:Bool) :
  BoolRow N (.slice (some ⟨g,0,none⟩) n cap) (l.set j x) (w.setCell ⟨g,j,none⟩ (.bool x)):=by
 rcases h.2 with ⟨e,h0⟩ | ⟨g',cap',cur,e,hb,hg,hnc,hcm,hcs,htake⟩
 ·cases e
 ·injection e with e1 e2 e3
  injection e1 with e1
  injection e1 with e1
  subst e1 e2 e3
  have hB:Blk w g cur 4:=hg
  refine ⟨by simp,.inr ⟨g,cap,cur.setIfInBounds j (.bool x),by rw [List.length_set],hb,hB.set j (.bool x),by rw [List.length_set];exact hnc,hcm,by rw [Array.size_setIfInBounds];exact hcs,?_⟩⟩
  rw [List.length_set,Array.toList_setIfInBounds,List.map_set,← htake,List.take_set]
theorem BoolRow.made {w:World} {N n:Nat} {x:Bool} (hN:N ≤ w.heap.size) (hn:n ≤ 9223372036854775807):BoolRow N (.slice (some ⟨w.heap.size,0,none⟩) n n) (List.replicate n x) (w.alloc (.cells (List.replicate n (Value.bool x)).toArray 4)):=by
 have:=BoolRow.ofBlk (N:=N) (l:=List.replicate n x) (g:=w.heap.size) (w:=w.alloc (.cells (List.replicate n (Value.bool x)).toArray 4)) (by rw [List.map_replicate];exact Blk.new _ _ _) hN (by simpa using hn)
 simpa using this
theorem Bools.cell {w:World} {a:Option Addr} {b o n cap:Nat} {l:List Bool} (h:Rows 1 (fun (x:Bool) b o=>Has w b o [.bool x]) l b o) {k:Nat} (hk:k < l.length):w.cell? ⟨b,o + k,none⟩=some (.bool l[k]):=by
 have:=h.get (List.getElem?_eq_getElem hk) 0 _ rfl
 simpa using this
theorem Ints.cell {w:World} {b o:Nat} {l:List Int} (h:Rows 1 (fun (x:Int) b o=>Has w b o [.int .i64 x]) l b o) {k:Nat} (hk:k < l.length):w.cell? ⟨b,o + k,none⟩=some (.int .i64 l[k]):=by
 have:=h.get (List.getElem?_eq_getElem hk) 0 _ rfl
 simpa using this
open Go.RowKit
def MkSaid (d:Flat) (n g:Nat) (av fv:Value) (wb:World) (e:E):Prop:=∀ (S:List Int) (cs:List Value) (w:World),Ext wb w→VE wb cs e→nodes e ≤ 1048576→BoolRow wb.heap.size (.slice (some ⟨g,0,none⟩) n n) (setB n S) w →
 Calls Tryz.prog 63 #[av,fv,.agg cs.toArray,.slice (some ⟨g,0,none⟩) n n] w fun r w'=>r=.returned (.tuple #[])∧BoolRow wb.heap.size (.slice (some ⟨g,0,none⟩) n n) (setB n (S ++ bitsM d.signals e)) w'∧w.grownBy w' (some g)
theorem BoolRow.cellf' {N g cap n:Nat} {l:List Bool} {w:World} (h:BoolRow N (.slice (some ⟨g,0,none⟩) n cap) l w) {j:Nat} (hj:j < l.length):w.cell? ⟨g,j,none⟩=some (.bool l[j])∧w.frozen? ⟨g,j,none⟩=false:=by
 obtain ⟨g',cap',e,hg,hc⟩:=h.open1 (by omega)
 injection e with e1 e2 e3
 injection e1 with e1
 injection e1 with e1
 subst e1
 obtain ⟨-,cur,hcur⟩:=h.at rfl
 have hB:Blk w g cur 4:=hcur
 exact ⟨hc j _ (List.getElem?_eq_getElem hj),hB.frozen j⟩
theorem BoolRow.gt {N g n cap:Nat} {l:List Bool} {w:World} (h:BoolRow N (.slice (some ⟨g,0,none⟩) n cap) l w):N ≤ g∧g < w.heap.size:=by
 obtain ⟨h1,cur,hc⟩:=h.at (k:=g) rfl
 exact ⟨h1,(Array.getElem?_eq_some_iff.1 hc).1⟩
set_option maxRecDepth 100000 in
set_option maxHeartbeats 8000000 in
theorem mark10_step (d:Flat) (hls:∀ x ∈ d.signals,1 ≤ x.w∧x.w ≤ 64) (hlen:d.signals.length ≤ 1048576) (n g:Nat) (hn:(n:Int)=sumW d.signals d.signals.length) (av fv:Value) (wb:World) (hF:FlatV wb fv d) (hA:Ints wb av (offsM d.signals d.signals.length))
  (e:E) (hws:WS d.signals e) (ih:∀ x ∈ e.l,MkSaid d n g av fv wb x):MkSaid d n g av fv wb e:=by
 intro S cs w hxb hV hnd hB0
 have hnn:=nodes_eq e
 have HNB:=Lib.hid (show ∀ x ∈ e.l,nodes x ≤ 1048576 from fun x hx=>by have:=le_sumBy nodes e.l x hx;omega)
 have hlb:e.l.length ≤ 1048576:=by have:=length_le_sumBy nodes e.l (fun x _=>nodes_pos x);omega
 have HRGE:=Lib.hid (bitsM_range hls e hws)
 have HBE:=Lib.hid (bitsM_eq hls hws)
 obtain ⟨hs0,hs1,hs3,hl0,hl1,hh0,hh1,hs2⟩:=ws_sig hls hws
 have hsum:=sumW_le d.signals hls d.signals.length (Nat.le_refl _)
 have hn2:n ≤ 67108864:=by omega
 have HLS:=Lib.hid hls
 have IH:=Lib.hid ih
 obtain ⟨hgb,hgw⟩:=hB0.gt
 obtain ⟨pre,hpre0,hpreS,hpreL⟩ : ∃ pre:Nat→List Int,pre 0=ownB d.signals e (cntB d.signals e)∧(∀ k (hk:k < e.l.length),pre (k + 1)=pre k ++ bitsM d.signals e.l[k])∧pre e.l.length=bitsM d.signals e :=
  ⟨fun k=>ownB d.signals e (cntB d.signals e) ++ ((e.l.take k).map (bitsM d.signals)).flatten,by simp only [List.take_zero,List.map_nil,List.flatten_nil,List.append_nil],fun k hk=>by simp only [take_snoc _ _ hk,List.map_append,List.flatten_append,List.map_cons,List.map_nil,List.flatten_cons,List.flatten_nil,List.append_nil,List.append_assoc],by simp only [List.take_length];rw [HBE.out]⟩
 have HP0:=Lib.hid hpre0
 have HPS:=Lib.hid hpreS
 have HPL:=Lib.hid hpreL
 have HFW:=Lib.hid (fun W (h:Ext wb W)=>hF.ext h)
 obtain ⟨s,rfl,hs⟩:=hV
 obtain ⟨a,b,ob,cap,rfl,hc1,hc2,ha,hr⟩:=hs.open
 obtain ⟨sv,pv,cv,rfl,hS,hP,hC⟩:=hF
 obtain ⟨a0,b0,o0,c0,rfl,hd1,hd2,hsa,hsr⟩:=hS.open
 obtain ⟨aa,ba,oa,ca,rfl,he1,he2,haa,har⟩:=hA.open
 clear ih
 rw [offsM_length] at haa he1 IH
 obtain rfl:=haa (by omega)
 have HR8:=Lib.hid (fun W (h:Ext wb W)=>(hr.mono fun x _ b o hh=>EAt.ext h x b o hh:Rows 8 (EAt W) e.l b ob))
 have HSR:=Lib.hid (fun W (h:Ext wb W)=>(hsr.mono fun x _ b o hh=>SigAt.ext' h hh:Rows 4 (SigAt W) d.signals b0 o0))
 have HAR:=Lib.hid (fun W (h:Ext wb W)=>(har.mono fun x _ b o hh=>Has.ext hh h:Rows 1 (fun (x:Int) b o=>Has W b o [.int .i64 x]) (offsM d.signals d.signals.length) ba oa))
 have HA:=Lib.hid ha
 have HSA:=Lib.hid hsa
 have x1:=ext_alloc w (.cells [.slice a0 d.signals.length c0,pv,cv].toArray 26)
 have x2:=ext_alloc (w.alloc (.cells [.slice a0 d.signals.length c0,pv,cv].toArray 26)) (.cells (e.cells (.slice a e.l.length cap)).toArray 44)
 have hD:=(Blk.new w [.slice a0 d.signals.length c0,pv,cv].toArray 26).ext x2
 have hE:=Blk.new (w.alloc (.cells [.slice a0 d.signals.length c0,pv,cv].toArray 26)) (e.cells (.slice a e.l.length cap)).toArray 44
 have hX:=x1.trans x2
 simp only [World.size_alloc] at hE
 rw [offsM_length]
 clear x1 x2 hS hP hC hs hr hsr ha hsa hnd hnn hws hls hpre0 hpreS hpreL har haa hA
 go_enter Tryz.func63,Tryz.ntmps63
 go_upto_region 1 with fail
 generalize (w.alloc _).alloc _=w0 at *
 have HD:=Lib.hid hD
 have HE:=Lib.hid hE
 have HX:=Lib.hid (hxb.trans hX)
 have HG:=Lib.hid (gb_ext hX g)
 have HB0:=Lib.hid (hB0.ext hX)
 have g0:w0.cell? ⟨w.heap.size + 1,0 + 0,none⟩=some (.int .i64 e.op):=hE.has 0 _ rfl
 have HGB:=Lib.hid hgb
 clear hD hE hX hB0 hxb
 obtain ⟨c2,hc2'⟩ : ∃ c2,(e.op == 2)=c2:=⟨_,rfl⟩
 go_upto_if 13 with fail
 go_cut [8] from 13 to 30 (fun u wx=>BoolRow wb.heap.size (.slice (some ⟨g,0,none⟩) n n) (setB n (S ++ if e.op=2 then pre 0 else [])) wx∧w0.grownBy wx (some g))
 case first =>
  by_cases o2:e.op=2
  ·have b2:(e.op == 2)=true:=by rw [beq_iff_eq];exact o2
   obtain rfl:c2=true:=by rw [← hc2',b2]
   obtain ⟨k0,hks⟩:=Int.eq_ofNat_of_zero_le hs0
   have hkl:k0 < d.signals.length:=by have:=hs2 (.inl o2);omega
   have hlo:lo0 e=e.lo:=by unfold lo0;rw [if_pos o2]
   have hhi:hi0 d.signals e=e.hi:=by unfold hi0;rw [if_pos o2]
   have HCN:=Lib.hid (show cntB d.signals e=(e.hi - e.lo + 1).toNat by unfold cntB;rw [hlo,hhi])
   obtain ⟨z0,hz0⟩ : ∃ z0,sumW d.signals k0=z0:=⟨_,rfl⟩
   have hzs:sumW d.signals e.sig.toNat=z0:=by rw [hks,Int.toNat_natCast,hz0]
   have HOS:=Lib.hid (show ∀ (k:Nat) (j:Int),z0 + (e.lo + (k:Int))=j→ownB d.signals e (k + 1)=ownB d.signals e k ++ [j] from fun k j h=>by rw [ownB_succ,hlo,hzs];congr 2;omega)
   have HRG:=Lib.hid (show ∀ k:Nat,k < cntB d.signals e→0 ≤ z0 + (e.lo + (k:Int))∧z0 + (e.lo + (k:Int)) < n from fun k hk=>by
    have:=HRGE.out (z0 + (e.lo + (k:Int))) (by rw [HBE.out];refine List.mem_append_left _ (List.mem_map.2 ⟨k,List.mem_range.2 hk,?_⟩);rw [hlo,hzs];omega)
    omega)
   have hz1:(offsM d.signals d.signals.length)[k0]'(by rw [offsM_length];omega)=z0:=by simp [offsM,hz0]
   have HZ:=Lib.hid (fun W (h:Ext wb W)=>show W.cell? ⟨ba,oa + k0,none⟩=some (.int .i64 z0) by have:=Ints.cell (HAR.out W h) (k:=k0) (by rw [offsM_length];omega);rw [hz1] at this;exact this)
   have hsz:=sumW_le d.signals HLS.out k0 (by omega)
   rw [hz0] at hsz
   have HEND:=Lib.hid (show (if e.op=2 then pre 0 else [])=ownB d.signals e (cntB d.signals e) by rw [if_pos o2,HP0.out])
   rw [hlo] at hl0 hl1
   rw [hhi] at hh0 hh1
   have y5:=HE.out.has 5 _ rfl
   clear o2 b2 hc2' hlo hhi hz0 hzs hz1 hs2 hs3 hs1
   go_wp2_with fail
   clear g0 y5
   go_loopw [8] (fun i wr=>∃ k:Nat,k ≤ cntB d.signals e∧i=.int .i64 (e.lo + k)∧BoolRow wb.heap.size (.slice (some ⟨g,0,none⟩) n n) (setB n (S ++ ownB d.signals e k)) wr∧w0.grownBy wr (some g)) (fun i _=>(e.hi + 1 - intOf i).toNat)
   case atStart=>exact ⟨0,Nat.zero_le _,by congr 1;omega,by simpa [ownB] using HB0.out,gb_refl _ _⟩
   case round =>
     obtain ⟨k,hk,rfl,hrow,hgr⟩:=hrel
     have HROW:=Lib.hid hrow
     have HGR:=Lib.hid hgr
     clear hrow hgr
     have hxr:=HX.out.grown HGR.out hgb
     have y3:=(HE.out.grown HGR.out (by omega)).has 3 _ rfl
     rw [hks] at y3
     have hz:=HZ.out wr hxr
     have y4:=(HE.out.grown HGR.out (by omega)).has 4 _ rfl
     by_cases hlt:e.lo + (k:Int) ≤ e.hi
     ·skip
      obtain ⟨hj1,hj2⟩:=HRG.out k (by have:=HCN.out;omega)
      obtain ⟨j,hj⟩ : ∃ j:Nat,z0 + (e.lo + (k:Int))=(j:Int):=⟨(z0 + (e.lo + (k:Int))).toNat,by omega⟩
      have hnk:=HOS.out k _ hj
      have hjn:j < n:=by omega
      have hset:=setB_set n (S ++ ownB d.signals e k) (j:Int) (by omega)
      rw [List.append_assoc,← hnk,Int.toNat_natCast] at hset
      have hrow0:=HROW.out
      have hjl:j < (setB n (S ++ ownB d.signals e k)).length:=by rw [setB_length];exact hjn
      obtain ⟨c1,c2⟩:=hrow0.cellf' hjl
      have hrow1:=hrow0.set j hjl true
      rw [hset] at hrow1
      have HG1:=Lib.hid (gb_trans HGR.out (gb_set wr g j (.bool true)))
      have HR1:=Lib.hid hrow1
      obtain ⟨bv,hbv⟩ : ∃ bv,(setB n (S ++ ownB d.signals e k))[j]=bv:=⟨_,rfl⟩
      rw [hbv] at c1
      obtain ⟨i0,hi0⟩ : ∃ i0:Int,e.lo + (k:Int)=i0:=⟨_,rfl⟩
      rw [hi0] at hj hlt ⊢
      have HI0:=Lib.hid hi0
      have HCK:=Lib.hid (show k + 1 ≤ cntB d.signals e by have:=HCN.out;omega)
      clear hrow0 hset hnk hrow1 hj1 hj2 hi0 hbv hk
      go_wp2_with fail
      go_roundw
      case rel=>exact ⟨k + 1,HCK.out,by congr 1;have:=HI0.out;push_cast;omega,HR1.out,HG1.out⟩
      case measure=>simp [intOf];omega
     ·obtain rfl:k=cntB d.signals e:=by have:=HCN.out;omega
      have hlt2:e.hi < e.lo + ((cntB d.signals e:Nat):Int):=by omega
      obtain ⟨i0,hi0⟩ : ∃ i0:Int,e.lo + ((cntB d.signals e:Nat):Int)=i0:=⟨_,rfl⟩
      rw [hi0] at hlt2 hlt ⊢
      clear hk hi0
      go_wp2_with fail
      go_meet
      exact ⟨by rw [HEND.out];exact HROW.out,HGR.out⟩
  ·have b2:(e.op == 2)=false:=by rw [beq_eq_false_iff_ne];exact o2
   obtain rfl:c2=false:=by rw [← hc2',b2]
   have HEND:=Lib.hid (show (if e.op=2 then pre 0 else [])=[] by rw [if_neg o2])
   clear o2 b2 hc2'
   go_wp2_with fail
   go_meet
   exact ⟨by rw [HEND.out,List.append_nil];exact HB0.out,gb_refl _ _⟩
 case rest =>
 rename_i v8 wc
 obtain ⟨hu,hxc⟩:=hcut
 have HB1:=Lib.hid hu
 have HG1:=Lib.hid (gb_trans HG.out hxc)
 have HX1:=Lib.hid (HX.out.grown hxc hgb)
 have HE1:=Lib.hid (HE.out.grown hxc (by omega))
 have HD1:=Lib.hid (HD.out.grown hxc (by omega))
 clear hu hxc g0 HB0 HX HE HD HG hc2'
 have g0:wc.cell? ⟨w.heap.size + 1,0 + 0,none⟩=some (.int .i64 e.op):=HE1.out.has 0 _ rfl
 obtain ⟨c3,hc3'⟩ : ∃ c3,(e.op == 3)=c3:=⟨_,rfl⟩
 go_upto_if 33 with fail
 go_cut [9] from 33 to 53 (fun u wx=>BoolRow wb.heap.size (.slice (some ⟨g,0,none⟩) n n) (setB n (S ++ pre 0)) wx∧wc.grownBy wx (some g))
 case first =>
  by_cases o3:e.op=3
  ·have b3:(e.op == 3)=true:=by rw [beq_iff_eq];exact o3
   obtain rfl:c3=true:=by rw [← hc3',b3]
   obtain ⟨k0,hks⟩:=Int.eq_ofNat_of_zero_le hs0
   have hkl:k0 < d.signals.length:=by have:=hs2 (.inr o3);omega
   obtain rfl:=HSA.out (by omega)
   have o2 : ¬ e.op=2:=by omega
   have hsw:sigW d.signals e.sig=d.signals[k0].w:=by rw [hks];simp [sigW,List.getElem?_eq_getElem hkl]
   have hlo:lo0 e=0:=by unfold lo0;rw [if_neg o2]
   have hhi:hi0 d.signals e=d.signals[k0].w - 1:=by unfold hi0;rw [if_neg o2,if_pos o3,hsw]
   have HSG:=Lib.hid (fun W (h:Ext wb W)=>(Sigs.get (HSR.out W h) hkl) 1 _ rfl)
   obtain ⟨sw,hswe⟩ : ∃ sw,d.signals[k0].w=sw:=⟨_,rfl⟩
   have hwk:=HLS.out _ (List.getElem_mem hkl)
   rw [hswe] at HSG hhi hwk
   have HCN:=Lib.hid (show cntB d.signals e=sw.toNat by unfold cntB;rw [hlo,hhi];omega)
   obtain ⟨z0,hz0⟩ : ∃ z0,sumW d.signals k0=z0:=⟨_,rfl⟩
   have hzs:sumW d.signals e.sig.toNat=z0:=by rw [hks,Int.toNat_natCast,hz0]
   have HOS:=Lib.hid (show ∀ (k:Nat) (j:Int),z0 + (k:Int)=j→ownB d.signals e (k + 1)=ownB d.signals e k ++ [j] from fun k j h=>by rw [ownB_succ,hlo,hzs];congr 2;omega)
   have HRG:=Lib.hid (show ∀ k:Nat,k < cntB d.signals e→0 ≤ z0 + (k:Int)∧z0 + (k:Int) < n from fun k hk=>by
    have:=HRGE.out (z0 + (k:Int)) (by rw [HBE.out];refine List.mem_append_left _ (List.mem_map.2 ⟨k,List.mem_range.2 hk,?_⟩);rw [hlo,hzs];omega)
    omega)
   have hz1:(offsM d.signals d.signals.length)[k0]'(by rw [offsM_length];omega)=z0:=by simp [offsM,hz0]
   have HZ:=Lib.hid (fun W (h:Ext wb W)=>show W.cell? ⟨ba,oa + k0,none⟩=some (.int .i64 z0) by have:=Ints.cell (HAR.out W h) (k:=k0) (by rw [offsM_length];omega);rw [hz1] at this;exact this)
   have hsz:=sumW_le d.signals HLS.out k0 (by omega)
   rw [hz0] at hsz
   have HB1':=Lib.hid (show BoolRow wb.heap.size (.slice (some ⟨g,0,none⟩) n n) (setB n S) wc by have:=HB1.out;rw [if_neg o2,List.append_nil] at this;exact this)
   clear o3 o2 b3 hc3' hlo hhi hz0 hzs hz1 hs2 hs3 hs1 hsw hswe hl0 hl1 hh0 hh1 g0
   go_wp2_with fail
   go_loopw [9] (fun i wr=>∃ k:Nat,k ≤ cntB d.signals e∧i=.int .i64 k∧BoolRow wb.heap.size (.slice (some ⟨g,0,none⟩) n n) (setB n (S ++ ownB d.signals e k)) wr∧wc.grownBy wr (some g)) (fun i _=>(sw - intOf i).toNat)
   case atStart=>exact ⟨0,Nat.zero_le _,rfl,by simpa [ownB] using HB1'.out,gb_refl _ _⟩
   case round =>
     obtain ⟨k,hk,rfl,hrow,hgr⟩:=hrel
     have HROW:=Lib.hid hrow
     have HGR:=Lib.hid hgr
     clear hrow hgr
     have hxr:=HX1.out.grown HGR.out hgb
     have y3:=(HE1.out.grown HGR.out (by omega)).has 3 _ rfl
     rw [hks] at y3
     have hz:=HZ.out wr hxr
     have ys:=HSG.out wr hxr
     have yd:=(HD1.out.grown HGR.out (by omega)).has 0 _ rfl
     by_cases hlt:(k:Int) < sw
     ·skip
      obtain ⟨hj1,hj2⟩:=HRG.out k (by have:=HCN.out;omega)
      obtain ⟨j,hj⟩ : ∃ j:Nat,z0 + (k:Int)=(j:Int):=⟨(z0 + (k:Int)).toNat,by omega⟩
      have hnk:=HOS.out k _ hj
      have hjn:j < n:=by omega
      have hset:=setB_set n (S ++ ownB d.signals e k) (j:Int) (by omega)
      rw [List.append_assoc,← hnk,Int.toNat_natCast] at hset
      have hrow0:=HROW.out
      have hjl:j < (setB n (S ++ ownB d.signals e k)).length:=by rw [setB_length];exact hjn
      obtain ⟨c1,c2⟩:=hrow0.cellf' hjl
      have hrow1:=hrow0.set j hjl true
      rw [hset] at hrow1
      have HG1:=Lib.hid (gb_trans HGR.out (gb_set wr g j (.bool true)))
      have HR1:=Lib.hid hrow1
      obtain ⟨bv,hbv⟩ : ∃ bv,(setB n (S ++ ownB d.signals e k))[j]=bv:=⟨_,rfl⟩
      rw [hbv] at c1
      have HCK:=Lib.hid (show k + 1 ≤ cntB d.signals e by have:=HCN.out;omega)
      clear hrow0 hset hnk hrow1 hj1 hj2 hbv hk
      go_wp2_with fail
      go_roundw
      case rel=>exact ⟨k + 1,HCK.out,by go_num,HR1.out,gb_trans HGR.out (gb_set wr g j (.bool true))⟩
      case measure=>simp [intOf];omega
     ·obtain rfl:k=cntB d.signals e:=by have:=HCN.out;omega
      clear hk
      go_wp2_with fail
      go_meet
      exact ⟨by rw [HP0.out];exact HROW.out,HGR.out⟩
  ·have b3:(e.op == 3)=false:=by rw [beq_eq_false_iff_ne];exact o3
   obtain rfl:c3=false:=by rw [← hc3',b3]
   have HB1':=Lib.hid (show BoolRow wb.heap.size (.slice (some ⟨g,0,none⟩) n n) (setB n (S ++ pre 0)) wc by
    have:=HB1.out
    by_cases o2:e.op=2
    ·rw [if_pos o2] at this;exact this
    ·rw [if_neg o2] at this
     have h0:pre 0=[]:=by rw [HP0.out];unfold cntB hi0 lo0;rw [if_neg o2,if_neg o3,if_neg o2];rfl
     rw [h0];exact this)
   clear o3 b3 hc3'
   go_wp2_with fail
   go_meet
   exact ⟨HB1'.out,gb_refl _ _⟩
 case rest =>
 obtain ⟨hu,hxd⟩:=hcut
 have HB2:=Lib.hid hu
 have HG2:=Lib.hid (gb_trans HG1.out hxd)
 have HX2:=Lib.hid (HX1.out.grown hxd hgb)
 have HE2:=Lib.hid (HE1.out.grown hxd (by omega))
 have HD2:=Lib.hid (HD1.out.grown hxd (by omega))
 clear hu hxd g0 HB1 HX1 HE1 HD1 HG1 hc3' hs0 hs1 hs2 hs3 hl0 hl1 hh0 hh1 HRGE HBE HP0
 go_wp2_with fail
 go_loopw [10] (fun i wr=>∃ k:Nat,k ≤ e.l.length∧i=.int .i64 k∧BoolRow wb.heap.size (.slice (some ⟨g,0,none⟩) n n) (setB n (S ++ pre k)) wr∧Ext wb wr∧Blk wr w.heap.size [.slice a0 d.signals.length c0,pv,cv].toArray 26∧Blk wr (w.heap.size + 1) (e.cells (.slice a e.l.length cap)).toArray 44∧w.grownBy wr (some g)) (fun i _=>e.l.length - (intOf i).toNat)
 case atStart=>exact ⟨0,Nat.zero_le _,rfl,HB2.out,HX2.out,HD2.out,HE2.out,HG2.out⟩
 case round =>
  obtain ⟨k,hk,rfl,hrow,hxr,hdr,her,hgr⟩:=hrel
  have HROW:=Lib.hid hrow
  have HGR:=Lib.hid hgr
  have HER:=Lib.hid her
  have HDR:=Lib.hid hdr
  have y7:=HER.out.has 7 _ rfl
  have HXR:=Lib.hid hxr
  clear hrow hgr hxr hdr her
  by_cases hlt:k < e.l.length
  ·obtain rfl:=HA.out (by omega)
   have hps:=HPS.out k hlt
   have hmem:e.l[k] ∈ e.l:=List.getElem_mem hlt
   have hih:=IH.out _ hmem
   have hnk:=HNB.out _ hmem
   obtain ⟨sk,hhas,hes⟩:=Es.get (HR8.out wb (Below.refl _ _)) hlt
   generalize e.l[k]=x at *
   have HXK:=Lib.hid (fun S W hW hB=>hih S (x.cells sk) W hW ⟨sk,rfl,hes⟩ hnk hB)
   have HH:=Lib.hid (fun W (h:Ext wb W)=>Has.ext hhas h)
   have HPK:=Lib.hid (show (S ++ pre k) ++ bitsM d.signals x=S ++ pre (k + 1) by rw [hps,List.append_assoc])
   clear hps hih hhas hes hmem hnk
   go_upto_region 14 with fail
   clear y7
   refine wp_region_held_drew (S:=fun W=>Ext wb W∧Blk W w.heap.size [.slice a0 d.signals.length c0,pv,cv].toArray 26∧Blk W (w.heap.size + 1) (e.cells (.slice (some ⟨b,ob,none⟩) e.l.length cap)).toArray 44) (by kernel_rfl) ⟨HXR.out.drew,HDR.out.drew,HER.out.drew⟩ (fun hHeld=>?_)
   try simp only [J]
   (refine Jt 0 (.slice (some ⟨ba,oa,none⟩) (d.signals.length + 1) ca) rfl (yif_load1 rfl fun _ _=>rfl) hHeld ?_;try simp only [J])
   (refine Jt 1 (.agg [.slice a0 d.signals.length c0,pv,cv].toArray) rfl (yif_load rfl 26 _ rfl rfl (fun W hW=>hW.2.1.has) agg_Flat rfl) hHeld ?_;try simp only [J])
   (refine Jt 2 (.pointer (some ⟨w.heap.size + 1,7,none⟩)) rfl (yif_load1 rfl (by intro W hW;clear hW;go_simp)) hHeld ?_;try simp only [J])
   (refine Jt 3 (.slice (some ⟨b,ob,none⟩) e.l.length cap) rfl (yif_load1 rfl (by intro W hW;have y:=hW.2.2.has 7 _ rfl;clear hW;go_simp)) hHeld ?_;try simp only [J])
   (refine Jt 4 (.int .i64 (k:Int)) rfl (yif_load1 rfl fun _ _=>rfl) hHeld ?_;try simp only [J])
   (refine Jt 5 (.pointer (some ⟨b,ob + k * 8,none⟩)) rfl (yif_load1 rfl (by intro W hW;clear hW;go_simp)) hHeld ?_;try simp only [J])
   (refine Jt 6 (.agg (x.cells sk).toArray) rfl (yif_load rfl 44 _ rfl rfl (fun W hW=>HH.out W hW.1) agg_E rfl) hHeld ?_;try simp only [J])
   (refine Jt 7 (.slice (some ⟨g,0,none⟩) n n) rfl (yif_load1 rfl fun _ _=>rfl) hHeld ?_;try simp only [J])
   (refine wpAnyH_ready (rs:=[8]) (by kernel_rfl) (by simp) ?_;refine AllReadyH.cons rfl (fun K hK=>?_) AllReadyH.nil)
   go_simp
   refine (HXK.out _ _ hHeld.1 (HROW.out.ext (Ext.drew (Below.refl wr.heap.size wr)))).mono ?_
   rintro r w3 ⟨rfl,hb3,hg3⟩
   rw [HPK.out] at hb3
   have HB3:=Lib.hid hb3
   have HG3:=Lib.hid (gb_trans (gb_drew HGR.out) hg3)
   refine hK.out _ _ ⟨hHeld.1.grown hg3 hgb,hHeld.2.1.grown hg3 (by omega),hHeld.2.2.grown hg3 (by omega)⟩ (fun hHeld=>?_)
   clear hK K hb3 hg3
   try simp only [J]
   refine wpAnyH_done (by kernel_rfl) ?_ _
   have HH3:=Lib.hid hHeld
   clear hHeld
   go_wp2_with fail
   go_roundw
   case rel=>exact ⟨k + 1,hlt,by go_num,HB3.out,HH3.out.1,HH3.out.2.1,HH3.out.2.2,HG3.out⟩
   case measure=>simp [intOf];omega
  ·obtain rfl:k=e.l.length:=by omega
   rw [HPL.out] at HROW
   go_wp2_with fail
   all_goals go_end0
   exact ⟨rfl,HROW.out,HGR.out⟩
theorem mark10_calls (d:Flat) (hls:∀ x ∈ d.signals,1 ≤ x.w∧x.w ≤ 64) (hlen:d.signals.length ≤ 1048576) (n g:Nat) (hn:(n:Int)=sumW d.signals d.signals.length) (av fv:Value) (wb:World) (hF:FlatV wb fv d) (hA:Ints wb av (offsM d.signals d.signals.length))
  (e:E):WS d.signals e→MkSaid d n g av fv wb e:=by
 induction e using E.ind with
 | h e ih =>
  intro hws
  exact mark10_step d hls hlen n g hn av fv wb hF hA e hws fun x hx=>ih x hx (((WS_iff _ e).1 hws).2 x hx)
open Go.RowKit
theorem IntRow.empty {N B:Nat} {w:World} (hb:Blk w B #[] 3) (hN:N ≤ B):IntRow N (.slice (some ⟨B,0,none⟩) 0 0) [] w :=
 ⟨by simp,.inr ⟨B,0,#[],rfl,hN,hb,Nat.le_refl _,by simp [maxLen],by simp,by simp⟩⟩
def offsF (ls:List Signal) (k:Nat):List Int:=(List.range k).map (sumW ls)
theorem offsF_succ (ls:List Signal) (k:Nat):offsF ls (k + 1)=offsF ls k ++ [sumW ls k]:=by unfold offsF;rw [List.range_succ,List.map_append];rfl
theorem offsF_length (ls:List Signal) (k:Nat):(offsF ls k).length=k:=by simp [offsF]
set_option maxRecDepth 100000 in
set_option maxHeartbeats 4000000 in
theorem first10_calls (d:Flat) (v:Value) (w:World) (h:FlatV w v d) (hlen:d.signals.length ≤ 1048576) (hw:∀ x ∈ d.signals,1 ≤ x.w∧x.w ≤ 64) :
  Calls Tryz.prog 62 #[v] w fun r w'=>∃ u,r=.returned u∧IntRow w.heap.size u (offsM d.signals d.signals.length) w'∧Ext w w':=by
 obtain ⟨sv,pv,cv,rfl,hS,hP,hC⟩:=h
 have HX:=Lib.hid (ext_alloc w (.cells [sv,pv,cv].toArray 26))
 have HB:=Lib.hid (Blk.new w [sv,pv,cv].toArray 26)
 obtain ⟨a0,b0,o0,c0,rfl,hc1,hc2,ha,hr⟩:=hS.open
 have HA:=Lib.hid ha
 have HR:=Lib.hid hr
 have HW:=Lib.hid hw
 clear hS hP hC ha hr hw
 go_enter Tryz.func62,Tryz.ntmps62
 go_upto_region 1 with fail
 have hs1:(w.alloc (.cells [.slice a0 d.signals.length c0,pv,cv].toArray 26)).heap.size=w.heap.size + 1:=by simp
 generalize w.alloc _=w1 at *
 have x3:=ext_alloc w1 (.cells #[] 3)
 have hL:=Blk.new w1 #[] 3
 have hrow0:=IntRow.empty (N:=w1.heap.size) hL (Nat.le_refl _)
 have hss:w1.heap.size < (w1.alloc (.cells #[] 3)).heap.size:=by simp
 go_wp2_with ((with_reducible show Jw (Op.buildSlice _ _ _));refine wpList_bs0 rfl _ rfl appInt ?_)
 generalize w1.alloc _=w2 at *
 clear hL
 go_loopw [3,4,5] (fun u n i wr=>∃ k:Nat,k ≤ d.signals.length∧i=.int .i64 k∧n=.int .i64 (sumW d.signals k)∧IntRow w1.heap.size u (offsF d.signals k) wr∧Ext w1 wr) (fun _ _ i _=>d.signals.length - (intOf i).toNat)
 case atStart=>exact ⟨0,Nat.zero_le _,rfl,rfl,by rw [← hs1];exact hrow0,x3⟩
 case round =>
  obtain ⟨k,hk,rfl,rfl,hrow,hx⟩:=hrel
  have HROW:=Lib.hid hrow
  have HXR:=Lib.hid hx
  have hsz:=hx.size
  have z0:=(HB.out.ext hx).has 0 _ rfl
  rw [Nat.zero_add] at z0
  clear hrow hx
  have hlk:=offsF_length d.signals k
  have hsucc:=offsF_succ d.signals k
  have hbd:=sumW_le d.signals HW.out k hk
  by_cases hlt:k < d.signals.length
  ·obtain rfl:=HA.out (by omega)
   have hhas:Has wr b0 (o0 + k * 4) d.signals[k].cells:=Sigs.get (HR.out.mono fun x _ b o h=>SigAt.ext' (HX.out.trans HXR.out) h) hlt
   have hwk:=HW.out _ (List.getElem_mem hlt)
   have hsw:=sumW_succ d.signals k hlt
   have hbd1:=sumW_le d.signals HW.out (k + 1) hlt
   obtain ⟨x,hxk⟩ : ∃ x,d.signals[k]=x:=⟨_,rfl⟩
   have HXK:=Lib.hid hxk
   rw [hxk] at hwk hsw hhas
   obtain ⟨s0,hs0⟩ : ∃ s0,sumW d.signals k=s0:=⟨_,rfl⟩
   obtain ⟨s1,hs1'⟩ : ∃ s1,sumW d.signals (k + 1)=s1:=⟨_,rfl⟩
   have HS1:=Lib.hid hs1'
   rw [hs1'] at hbd1 hsw
   rw [hs0] at hbd hsw hsucc ⊢
   have HB1:=Lib.hid hbd1
   clear hxk hs0 hs1' hbd1
   have HSUCC:=Lib.hid hsucc
   have HLK:=Lib.hid hlk
   have HSW:=Lib.hid hsw
   have HHAS:=Lib.hid hhas
   clear hsucc hlk hsw hhas
   go_wp2_with ((with_reducible show Jw (Op.buildSlice _ _ _));refine Hid.out ?_)
   refine Lib.hid ?_
   refine wpList_bs1 rfl _ _ rfl appInt rfl (cs:=[.int .i64 s0]) rfl rfl (by decide) ?_
   have hx2:=ext_alloc wr (.cells [Value.int .i64 s0].toArray 3)
   have hb2:=Blk.new wr [Value.int .i64 s0].toArray 3
   have hs2:(wr.alloc (.cells [Value.int .i64 s0].toArray 3)).heap.size=wr.heap.size + 1:=by simp
   refine wpList_appI rfl _ _ rfl rfl (HROW.out.ext hx2) rfl (fun _=>Nat.lt_of_lt_of_le Nat.zero_lt_one (Nat.le_refl 1)) (news:=[s0]) rfl (news_has hb2.has) (by rw [HLK.out];omega) (by omega) ?_
   intro g3 cap3 w3 hrow3 hg3
   have hX3:Ext w1 w3:=Ext.grownO (HXR.out.trans hx2) hg3 (fun j hj=>(HROW.out.at hj).1)
   have z0:=(HB.out.ext hX3).has 0 _ rfl
   rw [Nat.zero_add] at z0
   have hw3:w3.cell? ⟨b0,o0 + k * 4 + 1,none⟩=some (.int .i64 x.w):=by
    have hhas:Has w3 b0 (o0 + k * 4) d.signals[k].cells:=Sigs.get (HR.out.mono fun x _ b o h=>SigAt.ext' (HX.out.trans hX3) h) hlt
    have:=hhas 1 _ rfl
    rw [HXK.out] at this
    exact this
   rw [← HSUCC.out,HLK.out] at hrow3
   rw [HLK.out]
   have HR3:=Lib.hid hrow3
   have hadd:s0 + x.w=s1:=HSW.out.symm
   have hb1:=HB1.out
   clear hrow3 hg3 hb2 hx2 hs2
   go_wp2_with fail
   go_roundw
   case rel=>exact ⟨k + 1,hlt,by go_num,by rw [HS1.out],HR3.out,hX3⟩
   case measure=>simp [intOf];omega
  ·obtain rfl:k=d.signals.length:=by omega
   have HSUCC:=Lib.hid hsucc
   have HLK:=Lib.hid hlk
   obtain ⟨s0,hs0⟩ : ∃ s0,sumW d.signals d.signals.length=s0:=⟨_,rfl⟩
   rw [hs0] at HSUCC ⊢
   clear hsucc hlk hbd hs0
   go_wp2_with ((with_reducible show Jw (Op.buildSlice _ _ _));refine Hid.out ?_)
   refine Lib.hid ?_
   refine wpList_bs1 rfl _ _ rfl appInt rfl (cs:=[.int .i64 s0]) rfl rfl (by decide) ?_
   have hx2:=ext_alloc wr (.cells [Value.int .i64 s0].toArray 3)
   have hb2:=Blk.new wr [Value.int .i64 s0].toArray 3
   have hs2:(wr.alloc (.cells [Value.int .i64 s0].toArray 3)).heap.size=wr.heap.size + 1:=by simp
   refine wpList_appI rfl _ _ rfl rfl (HROW.out.ext hx2) rfl (fun _=>Nat.lt_of_lt_of_le Nat.zero_lt_one (Nat.le_refl 1)) (news:=[s0]) rfl (news_has hb2.has) (by rw [HLK.out];omega) (by omega) ?_
   intro g3 cap3 w3 hrow3 hg3
   have hX3:Ext w1 w3:=Ext.grownO (HXR.out.trans hx2) hg3 (fun j hj=>(HROW.out.at hj).1)
   rw [← HSUCC.out] at hrow3
   have HR3:=Lib.hid hrow3
   clear hrow3 hg3 hb2 hx2 hs2
   go_wp2_with fail
   go_ret
   exact ⟨_,rfl,HR3.out.less HX.out.size,HX.out.trans hX3⟩
open Go.RowKit
set_option maxHeartbeats 2000000 in
theorem ints_calls10 (l r:List Int) (v v':Value) (w:World) (h:Ints w v l) (h':Ints w v' r) :
  Calls Tryz.prog 28 #[v,v'] w fun e w'=>e=.returned (.bool (decide (l=r)))∧Ext w w':=by
 obtain ⟨a,b,o,cap,rfl,hc1,hc2,ha,hr⟩:=h.open
 obtain ⟨a',b',o',cap',rfl,hd1,hd2,ha',hr'⟩:=h'.open
 have HR:=Lib.hid hr
 have HA:=Lib.hid ha
 have HR':=Lib.hid hr'
 have HA':=Lib.hid ha'
 clear hr ha h hr' ha' h'
 obtain ⟨t,ht⟩ : ∃ t,decide (l=r)=t:=⟨_,rfl⟩
 rw [ht]
 have HT:=Lib.hid ht
 clear ht
 by_cases hlr:l.length=r.length
 ·have hlb:((l.length:Int) != (r.length:Int))=false:=by rw [bne_eq_false_iff_eq,hlr]
  have HLR:=Lib.hid hlr
  obtain ⟨n,hnl⟩ : ∃ n,l.length=n:=⟨_,rfl⟩
  have HNL:=Lib.hid hnl
  have HNR:=Lib.hid (show r.length=n by rw [← hlr];exact hnl)
  rw [← hlr] at hd1 HA' ⊢
  rw [hnl] at hc1 hd1 HA HA' ⊢
  clear hlr hlb hnl
  go_enter Tryz.func28,Tryz.ntmps28
  go_wp2_with fail
  go_loopw [5] (fun i wr=>∃ k:Nat,k ≤ n∧i=.int .i64 k∧(∀ j,j < k→l[j]? = r[j]?)∧Ext w wr) (fun i _=>n - (intOf i).toNat)
  case atStart=>exact ⟨0,Nat.zero_le _,rfl,fun j hj=>absurd hj (by omega),Below.refl _ _⟩
  case round =>
   obtain ⟨k,hk,rfl,hsame,hx⟩:=hrel
   have HS:=Lib.hid hsame
   have HX:=Lib.hid hx
   clear hsame hx
   by_cases hlt:k < n
   ·obtain rfl:=HA.out (by omega)
    obtain rfl:=HA'.out (by omega)
    have HZ:=Lib.hid (fun W (hx:Ext w W)=>Ints.cell (k:=k) (HR.out.mono fun x _ b o h=>Has.ext h hx) (by rw [HNL.out];exact hlt))
    have HZ':=Lib.hid (fun W (hx:Ext w W)=>Ints.cell (k:=k) (HR'.out.mono fun x _ b o h=>Has.ext h hx) (by rw [HNR.out];exact hlt))
    have HE:=Lib.hid (show l[k]? = some (l[k]'(by rw [HNL.out];exact hlt)) from List.getElem?_eq_getElem _)
    have HE':=Lib.hid (show r[k]? = some (r[k]'(by rw [HNR.out];exact hlt)) from List.getElem?_eq_getElem _)
    generalize l[k]'_=x at *
    generalize r[k]'_=y at *
    go_upto_region 6 with fail
    refine wp_region_held_drew (S:=fun W=>Ext w W) (by kernel_rfl) (Below.drew HX.out) (fun hHeld=>?_)
    try simp only [J]
    (refine Jt 0 (_) rfl (yif_load1 rfl fun _ _=>rfl) hHeld ?_;try simp only [J])
    (refine Jt 1 (_) rfl (yif_load1 rfl fun _ _=>rfl) hHeld ?_;try simp only [J])
    (refine Jt 2 (.pointer (some ⟨b,o + k,Option.none⟩)) rfl (yif_load1 rfl (by intro W hW;clear hW;go_simp;try (intro h;omega))) hHeld ?_;try simp only [J])
    (refine Jt 3 (.int .i64 x) rfl (yif_load1 rfl (by intro W hW;have y:=HZ.out W hW;clear hW;go_simp)) hHeld ?_;try simp only [J])
    (refine Jt 4 (_) rfl (yif_load1 rfl fun _ _=>rfl) hHeld ?_;try simp only [J])
    (refine Jt 5 (_) rfl (yif_load1 rfl fun _ _=>rfl) hHeld ?_;try simp only [J])
    (refine Jt 6 (.pointer (some ⟨b',o' + k,Option.none⟩)) rfl (yif_load1 rfl (by intro W hW;clear hW;go_simp;try (intro h;omega))) hHeld ?_;try simp only [J])
    (refine Jt 7 (.int .i64 y) rfl (yif_load1 rfl (by intro W hW;have y:=HZ'.out W hW;clear hW;go_simp)) hHeld ?_;try simp only [J])
    obtain ⟨c,hc⟩ : ∃ c,(x != y)=c:=⟨_,rfl⟩
    have HC:=Lib.hid hc
    clear hc
    (refine Jt 8 (.bool c) rfl (yif_load1 rfl (by intro W hW;clear hW;go_simp;exact HC.out)) hHeld ?_;try simp only [J])
    refine wpAnyH_done (by kernel_rfl) ?_ _
    cases c
    ·have HXY:=Lib.hid (show x=y by have:=HC.out;rwa [bne_eq_false_iff_eq] at this)
     go_wp2_with fail
     go_roundw
     case rel=>exact ⟨k + 1,hlt,by go_num,fun j hj=>by
      by_cases e:j=k
      ·subst e;rw [HE.out,HE'.out,HXY.out]
      ·exact HS.out j (by omega),hHeld⟩
     case measure=>simp [intOf];omega
    ·have HXY:=Lib.hid (show x ≠ y by have:=HC.out;rwa [bne_iff_ne] at this)
     obtain rfl:t=false:=by
      rw [← HT.out,decide_eq_false_iff_not]
      intro e
      have h1:=HE.out
      rw [e,HE'.out] at h1
      injection h1 with h1
      exact HXY.out h1.symm
     go_wp2_with fail
     go_ret
     exact ⟨rfl,hHeld⟩
   ·obtain rfl:k=n:=by omega
    obtain rfl:t=true:=by
     rw [← HT.out,decide_eq_true_eq]
     refine List.ext_getElem? fun j=>?_
     by_cases hj:j < k
     ·exact HS.out j hj
     ·rw [List.getElem?_eq_none (by rw [HNL.out];omega),List.getElem?_eq_none (by rw [HNR.out];omega)]
    go_wp2_with fail
    go_ret
    exact ⟨rfl,HX.out⟩
 ·obtain rfl:t=false:=by
   rw [← HT.out,decide_eq_false_iff_not]
   intro e;exact hlr (by rw [e])
  have hlb:((l.length:Int) != (r.length:Int))=true:=by rw [bne_iff_ne];omega
  clear hlr
  go_enter Tryz.func28,Tryz.ntmps28
  go_wp2_with fail
  go_ret
  exact ⟨rfl,Below.refl _ _⟩
theorem made_row' (w:World) (n:Nat) (hn:n ≤ 9223372036854775807):BoolRow w.heap.size (.slice (some ⟨w.heap.size,0,none⟩) n n) (setB n []) (w.alloc (.cells (List.replicate n (Value.bool false)).toArray 4)):=by
 rw [setB_nil]
 exact BoolRow.made (Nat.le_refl _) hn
theorem made_bools' {n:Nat}:(madeCells (Value.bool false).cells (n * 1))=(List.replicate n (Value.bool false)).toArray:=by rw [Nat.mul_one];exact madeCells_one _ _
theorem info_bool':(Tryz.prog.info? 4).map (fun i=>(i.zero,i.size,i.bytes))=some (some (.bool false),1,1):=by kernel_rfl
set_option maxRecDepth 100000 in
set_option maxHeartbeats 4000000 in
theorem Needs_callsR (d:Flat) (v:Value) (e:E) (cs:List Value) (w:World) (hF:FlatV w v d) (hok:d.ok) (hV:VE w cs e) (hwf:e.wf) (hn:nodes e ≤ 1048576) :
  Calls Tryz.prog 26 #[v,.agg cs.toArray] w fun r w'=>∃ u,r=.returned (.tuple #[u,.int .i64 (needsM d e).2])∧IntRow w.heap.size u (needsM d e).1 w'∧Ext w w':=by
 have HFW:=Lib.hid (fun W (h:Ext w W)=>hF.ext h)
 have HVW:=Lib.hid (fun W (h:Ext w W)=>hV.ext h)
 have HCK:=Lib.hid (fun W (h:Ext w W)=>Check_callsR d v W (hF.ext h) hok)
 have HCE:=Lib.hid (fun W (h:Ext w W)=>CheckE_callsR d v e cs W (hF.ext h) hok (hV.ext h) hwf hn)
 have HN:=Lib.hid hn
 have HLEN:=Lib.hid hok.signals
 have h8:cs.length=8:=by obtain ⟨s,rfl,-⟩:=hV;rfl
 obtain ⟨sv,pv,cv,rfl,hS,hP,hC⟩:=hF
 obtain ⟨a0,b0,o0,c0,rfl,hd1,hd2,-,-⟩:=hS.open
 have x1:=ext_alloc w (.cells [.slice a0 d.signals.length c0,pv,cv].toArray 26)
 have x2:=ext_alloc (w.alloc (.cells [.slice a0 d.signals.length c0,pv,cv].toArray 26)) (.cells cs.toArray 44)
 have hD:=(Blk.new w [.slice a0 d.signals.length c0,pv,cv].toArray 26).ext x2
 have hE:=Blk.new (w.alloc (.cells [.slice a0 d.signals.length c0,pv,cv].toArray 26)) cs.toArray 44
 have hX:=x1.trans x2
 simp only [World.size_alloc] at hE
 clear x1 x2 hS hP hC hok hV hwf hn
 obtain ⟨OUT,hout⟩ : ∃ o,needsM d e=o:=⟨_,rfl⟩
 have HOUT:=Lib.hid hout
 rw [hout]
 clear hout
 go_enter Tryz.func26,Tryz.ntmps26
 go_upto_region 1 with fail
 generalize (w.alloc _).alloc _=w0 at *
 have HD:=Lib.hid hD
 have HE:=Lib.hid hE
 have HX:=Lib.hid hX
 have d0:=hD.has
 clear hD hE hX
 by_cases hck:checkM d=0
 case neg =>
  have c1:(checkM d != 0)=true:=by rw [bne_iff_ne];exact hck
  obtain rfl:OUT=([],1):=by rw [← HOUT.out];unfold needsM mayM;rw [decide_eq_false hck];rfl
  clear hck
  go_wp2_with (first | ((with_reducible show Jw (Op.load 26 _));refine wpList_load_has rfl 26 _ rfl rfl (d0) agg_Flat rfl ?_) | (go_at_call 54;refine (HCK.out w0 HX.out).mono ?_;rintro r w1 ⟨rfl,hx1⟩))
  refine bodyPost_ret (v:=.tuple #[.slice none 0 0,.int .i64 1]) (by simp [results,Tryz.results26,go_sem]) rfl ⟨_,rfl,IntRow.nil _ _,HX.out.trans hx1⟩
 have HCK2:=Lib.hid (HCK.out w0 HX.out)
 rw [hck] at HCK2
 by_cases hce:checkEM d.signals e=0
 case neg =>
  have c1:(checkEM d.signals e != 0)=true:=by rw [bne_iff_ne];exact hce
  obtain rfl:OUT=([],1):=by rw [← HOUT.out];unfold needsM mayM;rw [decide_eq_false hce,Bool.and_false];rfl
  clear hce hck
  go_wp2_with (first | (go_at_call 54;refine HCK2.out.mono ?_;rintro r w1 ⟨rfl,hx1⟩;have d1:=(HD.out.ext hx1).has;have e1:=(HE.out.ext hx1).has;clear d0) | ((with_reducible show Jw (Op.load 26 _));refine wpList_load_has rfl 26 _ rfl rfl (d0) agg_Flat rfl ?_) | ((with_reducible show Jw (Op.load 26 _));refine wpList_load_has rfl 26 _ rfl rfl (d1) agg_Flat rfl ?_) | ((with_reducible show Jw (Op.load 44 _));refine wpList_load_has rfl 44 _ rfl rfl (e1) agg_E h8 ?_) | (go_at_call 30;refine (HCE.out w1 (HX.out.trans hx1)).mono ?_;rintro r w2 ⟨rfl,hx2⟩))
  refine bodyPost_ret (v:=.tuple #[.slice none 0 0,.int .i64 1]) (by simp [results,Tryz.results26,go_sem]) rfl ⟨_,rfl,IntRow.nil _ _,HX.out.trans (hx1.trans hx2)⟩
 obtain rfl:OUT=(setI (bitsM d.signals e),0):=by rw [← HOUT.out];unfold needsM mayM;rw [decide_eq_true hck,decide_eq_true hce];rfl
 have hls:=checkM_w hck
 have hws:=(checkEM_ws (fun x hx=>(hls x hx).2) hce).1
 have hsum:=sumW_le d.signals hls d.signals.length (Nat.le_refl _)
 obtain ⟨n,hnn⟩:=Int.eq_ofNat_of_zero_le hsum.1
 have hn2:n ≤ 67108864:=by have:=HLEN.out;omega
 have HNS:=Lib.hid (hnn.symm)
 have HMS:=Lib.hid (marked_set (n:=n) (S:=bitsM d.signals e) fun x hx=>by have:=bitsM_range hls e hws x hx;omega)
 have HLS:=Lib.hid hls
 have HWS:=Lib.hid hws
 have HFI:=Lib.hid (fun W (h:Ext w W)=>first10_calls d _ W (HFW.out W h) HLEN.out hls)
 rw [hce] at HCE
 clear hls hws hce hck hsum hnn
 go_upto_region 4 with (first | (go_at_call 54;refine HCK2.out.mono ?_;rintro r w1 ⟨rfl,hx1⟩;have d1:=(HD.out.ext hx1).has;have e1:=(HE.out.ext hx1).has;clear d0) | ((with_reducible show Jw (Op.load 26 _));refine wpList_load_has rfl 26 _ rfl rfl (d0) agg_Flat rfl ?_) | (go_at_call 30;refine (HCE.out w1 (HX.out.trans hx1)).mono ?_;rintro r w2 ⟨rfl,hx2⟩;have d2:=(HD.out.ext (hx1.trans hx2)).has;clear d1 e1) | ((with_reducible show Jw (Op.load 26 _));refine wpList_load_has rfl 26 _ rfl rfl (d1) agg_Flat rfl ?_) | ((with_reducible show Jw (Op.load 44 _));refine wpList_load_has rfl 44 _ rfl rfl (e1) agg_E h8 ?_) | ((with_reducible show Jw (Op.load 26 _));refine wpList_load_has rfl 26 _ rfl rfl (d2) agg_Flat rfl ?_) | (go_at_call 62;refine (HFI.out w2 (HX.out.trans (hx1.trans hx2))).mono ?_;rintro r w3 ⟨u3,rfl,hu3,hx3⟩;have HU3:=Lib.hid hu3;clear hu3))
 have hxx:=(hx1.trans hx2).trans hx3
 have HX3:=Lib.hid (HX.out.trans hxx)
 have HD3:=Lib.hid (HD.out.ext hxx)
 have HE3:=Lib.hid (HE.out.ext hxx)
 clear hxx hx1 hx2 hx3 HX HD HE d2 HCK HCK2 HCE HFI
 have hal:=HU3.out.cells
 obtain ⟨aa,ba,oa,ca,rfl,he1,he2,haa,har⟩:=hal.open
 rw [offsM_length] at haa he1
 obtain rfl:=haa (by omega)
 have HAL:=Lib.hid hal
 have hz:w3.cell? ⟨ba,oa + d.signals.length,none⟩=some (.int .i64 (n:Int)):=by
  have:=Ints.cell har (k:=d.signals.length) (by rw [offsM_length];omega)
  rw [show (offsM d.signals d.signals.length)[d.signals.length]'(by rw [offsM_length];omega)=(n:Int) by rw [HNS.out];simp [offsM]] at this
  exact this
 have yd:=HD3.out.has 0 _ rfl
 rw [offsM_length] at HAL ⊢
 clear hal har haa HU3
 go_wp2_with ((with_reducible show Jw (Op.makeSlice _ _ _));refine Hid.out ?_)
 refine Lib.hid ?_
 refine wpList_mk rfl _ _ _ rfl (n:=n) rfl rfl Tryz.underlying90 info_bool' (by omega) (by omega) ?_
 rw [made_bools']
 have hx4:=ext_alloc w3 (.cells (List.replicate n (Value.bool false)).toArray 4)
 have hr4:=made_row' w3 n (by omega)
 have HD4:=Lib.hid (HD3.out.ext hx4)
 have HE4:=Lib.hid (HE3.out.ext hx4)
 have HX4:=Lib.hid hx4
 have HMK:=Lib.hid (fun W (h:Ext w3 W) hB=>mark10_calls d HLS.out HLEN.out n w3.heap.size HNS.out _ _ w3 (HFW.out w3 HX3.out) HAL.out e HWS.out [] cs W h (HVW.out w3 HX3.out) HN.out hB)
 have HR4:=Lib.hid hr4
 clear hz yd hx4 hr4
 generalize w3.alloc _=w4 at *
 have d4:=HD4.out.has
 have e4:=HE4.out.has
 go_wp2_with (first | ((with_reducible show Jw (Op.load 26 _));refine wpList_load_has rfl 26 _ rfl rfl (d4) agg_Flat rfl ?_) | ((with_reducible show Jw (Op.load 44 _));refine wpList_load_has rfl 44 _ rfl rfl (e4) agg_E h8 ?_) | (go_at_call 63;refine (HMK.out w4 HX4.out HR4.out).mono ?_;rintro r w5 ⟨rfl,hr5,hg5⟩) | ((with_reducible show Jw (Op.buildSlice _ _ _));refine wpList_bs0 rfl _ rfl appInt ?_))
 have HX5:=Lib.hid (HX3.out.trans (HX4.out.grown hg5 (Nat.le_refl _)))
 rw [List.nil_append] at hr5
 have hx6:=ext_alloc w5 (.cells #[] 3)
 have hrow6:=IntRow.empty (N:=w5.heap.size) (Blk.new w5 #[] 3) (Nat.le_refl _)
 have hbs:=hr5.cells
 have hbl:=setB_length n (bitsM d.signals e)
 have HMS2:=Lib.hid HMS.out
 obtain ⟨bl,hble⟩ : ∃ bl,setB n (bitsM d.signals e)=bl:=⟨_,rfl⟩
 rw [hble] at hbs hbl HMS2
 obtain ⟨ag,bg,og,cg,hsl,hc1,hc2,ha,hr⟩:=hbs.open
 rw [hbl] at hsl ha hc1
 have HSLE:=Lib.hid hsl
 have HBR:=Lib.hid hr
 have HBA:=Lib.hid (show 0 < n→w3.heap.size=bg∧og=0 from fun h=>by
  have h1:=ha h
  rw [h1] at hsl
  injection hsl with h2
  injection h2 with h2
  injection h2 with h2 h3
  exact ⟨h2,h3.symm⟩)
 have HR6:=Lib.hid hrow6
 have HX6:=Lib.hid hx6
 have HBL:=Lib.hid hbl
 clear hx6 hrow6 hbs hr5 hble hsl hc1 hc2 ha hr hg5 d4 e4 hbl
 generalize w5.alloc _=w6 at *
 go_wp2_with fail
 go_loopw [8,9] (fun u i wr=>∃ k:Nat,k ≤ n∧i=.int .i64 k∧IntRow w5.heap.size u (markedK bl k) wr∧Ext w5 wr) (fun _ i _=>n - (intOf i).toNat)
 case atStart=>exact ⟨0,Nat.zero_le _,rfl,HR6.out,HX6.out⟩
 case round =>
  obtain ⟨k,hk,rfl,hrow,hx⟩:=hrel
  have HROW:=Lib.hid hrow
  have HX:=Lib.hid hx
  have hsz:=hx.size
  clear hrow hx
  by_cases hlt:k < n
  ·have hkb:k < bl.length:=by rw [HBL.out];exact hlt
   have hz:wr.cell? ⟨w3.heap.size,k,none⟩=some (.bool bl[k]):=by
    have:=Bools.cell (a:=none) (n:=0) (cap:=0) (HBR.out.mono fun x _ b o h=>Has.ext h HX.out) hkb
    rw [(HBA.out (by omega)).1,show (⟨bg,k,none⟩ : Addr)=⟨bg,og + k,none⟩ by rw [(HBA.out (by omega)).2,Nat.zero_add]]
    exact this
   have hm:=markedK_succ bl k
   rw [List.getD_eq_getElem?_getD,List.getElem?_eq_getElem hkb,Option.getD_some] at hm
   have hml:=markedK_length bl k
   generalize bl[k]=x at *
   have HM:=Lib.hid hm
   clear hm hkb
   cases x
   ·have hm:=HM.out
    rw [if_neg (by decide),List.append_nil] at hm
    rw [← hm] at HROW
    clear hm HM
    go_wp2_with fail
    go_roundw
    case rel=>exact ⟨k + 1,hlt,by go_num,HROW.out,HX.out⟩
    case measure=>simp [intOf];omega
   ·have hm:=HM.out
    rw [if_pos rfl] at hm
    have HM2:=Lib.hid hm
    clear hm HM
    go_wp2_with ((with_reducible show Jw (Op.buildSlice _ _ _));refine Hid.out ?_)
    refine Lib.hid ?_
    refine wpList_bs1 rfl _ _ rfl appInt rfl (cs:=[.int .i64 (k:Int)]) rfl rfl (by decide) ?_
    have hx2:=ext_alloc wr (.cells [Value.int .i64 (k:Int)].toArray 3)
    have hb2:=Blk.new wr [Value.int .i64 (k:Int)].toArray 3
    have hs2:(wr.alloc (.cells [Value.int .i64 (k:Int)].toArray 3)).heap.size=wr.heap.size + 1:=by simp
    refine wpList_appI rfl _ _ rfl rfl (HROW.out.ext hx2) rfl (fun _=>Nat.lt_of_lt_of_le Nat.zero_lt_one (Nat.le_refl 1)) (news:=[(k:Int)]) rfl (news_has hb2.has) (by omega) (by omega) ?_
    intro g3 cap3 w7 hrow3 hg3
    have hX3:Ext w5 w7:=Ext.grownO (HX.out.trans hx2) hg3 (fun j hj=>(HROW.out.at hj).1)
    rw [← HM2.out] at hrow3
    have hl3:(markedK bl k).length + 1=(markedK bl (k + 1)).length:=by rw [HM2.out];simp
    rw [hl3] at hrow3 ⊢
    have HR3:=Lib.hid hrow3
    clear hrow3 hg3 hl3 hb2 hx2 hs2
    go_wp2_with fail
    go_roundw
    case rel=>exact ⟨k + 1,hlt,by go_num,HR3.out,hX3⟩
    case measure=>simp [intOf];omega
  ·obtain rfl:k=n:=by omega
   go_wp2_with fail
   refine bodyPost_ret (v:=.tuple #[u8,.int .i64 0]) (by simp [results,Tryz.results26,go_sem]) rfl ⟨_,rfl,by have:=HROW.out;rw [HMS2.out] at this;exact this.less HX5.out.size,HX5.out.trans HX.out⟩
end Go.Proofs.YtemabheegnngdaaGreat
