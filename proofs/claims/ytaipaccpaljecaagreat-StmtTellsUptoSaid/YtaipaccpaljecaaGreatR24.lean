/- Laws and walks that a claim of this seat leans on: Mark1, Mark2, Mark3, Mark4. -/
import Derived.Test.YtaipaccpaljecaaGreatR22
import Derived.Test.YtaipaccpaljecaaGreatR14
import Derived.Test.YtaipaccpaljecaaGreatR00
set_option maxRecDepth 100000
set_option maxHeartbeats 8000000
set_option linter.all false
namespace Go.Proofs.YtaipaccpaljecaaGreat
open Go.RowKit
theorem BoolRow.cellf {N g cap n:Nat} {l:List Bool} {w:World} (h:BoolRow N (.slice (some ⟨g,0,none⟩) n cap) l w) {j:Nat} (hj:j<l.length):w.cell? ⟨g,j,none⟩=some (.bool l[j])/\w.frozen? ⟨g,j,none⟩=false:=by
 obtain ⟨g',cap',e,hg,hc⟩:=h.open1 (by omega)
 injection e with e1 e2 e3
 injection e1 with e1
 injection e1 with e1
 subst e1
 obtain ⟨-,cur,hcur⟩:=h.at rfl
 have hB:Blk w g cur 4:=hcur
 exact ⟨hc j _ (List.getElem?_eq_getElem hj),hB.frozen j⟩
theorem setB_succ (k:Nat) (S:List Int):setB (k+1) S=setB k S++[decide ((k:Int)∈S)]:=by
 unfold setB;rw [List.range_succ,List.map_append];rfl
theorem bnews_has {w:World} {B:Nat} {x:Bool} (h:Has w B 0 [.bool x]):∀ j u,([x].map Value.bool)[j]? = some u->w.cell? ((⟨B,0,none⟩:Addr).add j)=some u:=by
 intro j u hj
 have hadd:(⟨B,0,none⟩:Addr).add j=⟨B,j,none⟩:=by unfold Addr.add;split<;>simp_all
 rw [hadd]
 have:=h j u hj
 rwa [Nat.zero_add] at this
/-! ### filigreeref11.marked -/
theorem marked_calls (bl:List Bool) (v:Value) (w:World) (h:Bools w v bl) (hn:bl.length<=1073741824) :
  Calls Tryz.prog 66 #[v] w fun r w'=>∃ u,r=.returned u/\IntRow w.heap.size u (markedK bl bl.length) w'/\Ext w w':=by
 obtain ⟨a,b,o,cap,rfl,hc1,hc2,ha,hr⟩:=h.open
 have HR:=Jh hr
 have HA:=Jh ha
 clear hr ha h
 go_enter Tryz.func66,Tryz.ntmps66
 go_wp2_with fail
 go_loopw [3,4] (fun u i wr=>∃ k:Nat,k<=bl.length/\i=.int .i64 k/\IntRow w.heap.size u (markedK bl k) wr/\Ext w wr) (fun _ i _=>bl.length-(intOf i).toNat)
 case atStart=>exact ⟨0,Nat.zero_le _,rfl,IntRow.nil _ _,Below.refl _ _⟩
 case round =>
  obtain ⟨k,hk,rfl,hrow,hx⟩:=hrel
  have HROW:=Jh hrow
  have HX:=Jh hx
  have hsz:=hx.size
  clear hrow hx
  by_cases hlt:k<bl.length
  ·obtain rfl:=HA.out (by omega)
   have hz:=Bools.cell (a:=none) (n:=0) (cap:=0) (HR.out.mono fun x _ b o h=>Has.ext h HX.out) hlt
   have hm:=markedK_succ bl k
   rw [List.getD_eq_getElem?_getD,List.getElem?_eq_getElem hlt,Option.getD_some] at hm
   have hml:=markedK_length bl k
   generalize bl[k]=x at *
   have HM:=Jh hm
   clear hm
   cases x
   ·have hm:=HM.out
    rw [if_neg (by decide),List.append_nil] at hm
    rw [<-hm] at HROW
    clear hm HM
    go_wp2_with fail
    go_roundw
    case rel=>exact ⟨k+1,hlt,by go_num,HROW.out,HX.out⟩
    case measure=>simp [intOf];omega
   ·have hm:=HM.out
    rw [if_pos rfl] at hm
    have HM2:=Jh hm
    clear hm HM
    go_wp2_with ((with_reducible show Jw (Op.buildSlice _ _ _));refine Hid.out ?_)
    refine Jh ?_
    refine wpList_bs1 rfl _ _ rfl appInt rfl (cs:=[.int .i64 (k:Int)]) rfl rfl (by decide) ?_
    have hx2:=ext_alloc wr (.cells [Value.int .i64 (k:Int)].toArray 3)
    have hb2:=Blk.new wr [Value.int .i64 (k:Int)].toArray 3
    have hs2:(wr.alloc (.cells [Value.int .i64 (k:Int)].toArray 3)).heap.size=wr.heap.size+1:=by simp
    refine wpList_appI rfl _ _ rfl rfl (HROW.out.ext hx2) rfl (fun _=>Nat.lt_of_lt_of_le Nat.zero_lt_one (Nat.le_refl 1)) (news:=[(k:Int)]) rfl (news_has hb2.has) (by omega) (by omega) ?_
    intro g3 cap3 w3 hrow3 hg3
    have hX3:Ext w w3:=Ext.grownO (HX.out.trans hx2) hg3 (fun j hj=>(HROW.out.at hj).1)
    rw [<-HM2.out] at hrow3
    have hl3:(markedK bl k).length+1=(markedK bl (k+1)).length:=by rw [HM2.out];simp
    rw [hl3] at hrow3 ⊢
    have HR3:=Jh hrow3
    clear hrow3 hg3 hl3 hb2 hx2 hs2
    go_wp2_with fail
    go_roundw
    case rel=>exact ⟨k+1,hlt,by go_num,HR3.out,hX3⟩
    case measure=>simp [intOf];omega
  ·obtain rfl:k=bl.length:=by omega
   go_wp2_with fail
   go_ret
   exact ⟨_,rfl,HROW.out,HX.out⟩
/-! ### filigreeref11.either, both -/
theorem either_calls11 (n:Nat) (S S' R:List Int) (v v':Value) (w:World) (h:Bools w v (setB n S)) (h':Bools w v' (setB n S')) (hn:n<=1073741824) (hR:∀ k:Nat,k<n->decide ((k:Int)∈R)=(Bool.or (decide ((k:Int)∈S)) (decide ((k:Int)∈S')))) :
  Calls Tryz.prog 99 #[v,v'] w fun r w'=>∃ u,r=.returned u/\BoolRow w.heap.size u (setB n R) w'/\Ext w w':=by
 obtain ⟨a,b,o,cap,rfl,hc1,hc2,ha,hr⟩:=h.open
 obtain ⟨a',b',o',cap',rfl,hd1,hd2,ha',hr'⟩:=h'.open
 rw [setB_length] at hc1 ha hd1 ha' ⊢
 rw [setB_length]
 have HR:=Jh hr
 have HA:=Jh ha
 have HR':=Jh hr'
 have HA':=Jh ha'
 have HRR:=Jh hR
 clear hr ha h hr' ha' h' hR
 go_enter Tryz.func99,Tryz.ntmps99
 go_wp2_with fail
 go_loopw [5,6] (fun u i wr=>∃ k:Nat,k<=n/\i=.int .i64 k/\BoolRow w.heap.size u (setB k R) wr/\Ext w wr) (fun _ i _=>n-(intOf i).toNat)
 case atStart=>exact ⟨0,Nat.zero_le _,rfl,BoolRow.nil _ _,Below.refl _ _⟩
 case round =>
  obtain ⟨k,hk,rfl,hrow,hx⟩:=hrel
  have HROW:=Jh hrow
  have HX:=Jh hx
  have hsz:=hx.size
  clear hrow hx
  by_cases hlt:k<n
  ·obtain rfl:=HA.out (by omega)
   obtain rfl:=HA'.out (by omega)
   have hz:=Bools.cell (a:=none) (n:=0) (cap:=0) (k:=k) (HR.out.mono fun x _ b o h=>Has.ext h HX.out) (by rw [setB_length];exact hlt)
   have hz':=Bools.cell (a:=none) (n:=0) (cap:=0) (k:=k) (HR'.out.mono fun x _ b o h=>Has.ext h HX.out) (by rw [setB_length];exact hlt)
   rw [setB_getElem] at hz hz'
   have hm:=setB_succ k R
   rw [HRR.out k hlt] at hm
   have hml:=setB_length k R
   generalize decide ((k:Int)∈S)=x at *
   generalize decide ((k:Int)∈S')=y at *
   obtain ⟨z,hzz⟩:∃ z,(Bool.or x y)=z:=⟨_,rfl⟩
   rw [hzz] at hm
   have HM2:=Jh hm
   have HZ:=Jh hzz
   have HML:=Jh hml
   clear hm hzz hml
   have hx2:=ext_alloc wr (.cells [Value.bool z].toArray 4)
   have hb2:=Blk.new wr [Value.bool z].toArray 4
   have HX2:=Jh hx2
   have HB2:=Jh hb2
   clear hx2 hb2
   cases x
   all_goals cases y
   all_goals (
    obtain rfl:=HZ.out
    go_wp2_with ((with_reducible show Jw (Op.buildSlice _ _ _));refine Hid.out ?_)
    refine Jh ?_
    refine wpList_bs1 rfl _ _ rfl appBool rfl (cs:=[.bool _]) rfl rfl (by decide) ?_
    refine wpList_appBI rfl _ _ rfl rfl (HROW.out.ext HX2.out) rfl (fun _=>Nat.lt_of_lt_of_le Nat.zero_lt_one (Nat.le_refl 1)) (news:=[_]) rfl (bnews_has HB2.out.has) (by rw [HML.out];omega) (by rw [World.size_alloc];omega) ?_
    intro g3 cap3 w3 hrow3 hg3
    have hX3:Ext w w3:=Ext.grownO (HX.out.trans HX2.out) hg3 (fun j hj=>(HROW.out.at hj).1)
    have hm3:=HM2.out
    simp only [Bool.or_false,Bool.or_true,Bool.and_false,Bool.and_true] at hm3
    have hrow4:BoolRow w.heap.size (.slice (some ⟨g3,0,none⟩) (k+1) cap3) (setB (k+1) R) w3:=by
     rw [HML.out] at hrow3;rw [hm3];exact hrow3
    rw [HML.out]
    have HR3:=Jh hrow4
    clear hrow3 hg3 hrow4 hm3
    go_wp2_with fail
    go_roundw
    case rel=>exact ⟨k+1,hlt,by go_num,HR3.out,hX3⟩
    case measure=>simp [intOf];omega)
  ·obtain rfl:k=n:=by omega
   go_wp2_with fail
   go_ret
   exact ⟨_,rfl,HROW.out,HX.out⟩
theorem both_calls11 (n:Nat) (S S' R:List Int) (v v':Value) (w:World) (h:Bools w v (setB n S)) (h':Bools w v' (setB n S')) (hn:n<=1073741824) (hR:∀ k:Nat,k<n->decide ((k:Int)∈R)=(Bool.and (decide ((k:Int)∈S)) (decide ((k:Int)∈S')))) :
  Calls Tryz.prog 98 #[v,v'] w fun r w'=>∃ u,r=.returned u/\BoolRow w.heap.size u (setB n R) w'/\Ext w w':=by
 obtain ⟨a,b,o,cap,rfl,hc1,hc2,ha,hr⟩:=h.open
 obtain ⟨a',b',o',cap',rfl,hd1,hd2,ha',hr'⟩:=h'.open
 rw [setB_length] at hc1 ha hd1 ha' ⊢
 rw [setB_length]
 have HR:=Jh hr
 have HA:=Jh ha
 have HR':=Jh hr'
 have HA':=Jh ha'
 have HRR:=Jh hR
 clear hr ha h hr' ha' h' hR
 go_enter Tryz.func98,Tryz.ntmps98
 go_wp2_with fail
 go_loopw [5,6] (fun u i wr=>∃ k:Nat,k<=n/\i=.int .i64 k/\BoolRow w.heap.size u (setB k R) wr/\Ext w wr) (fun _ i _=>n-(intOf i).toNat)
 case atStart=>exact ⟨0,Nat.zero_le _,rfl,BoolRow.nil _ _,Below.refl _ _⟩
 case round =>
  obtain ⟨k,hk,rfl,hrow,hx⟩:=hrel
  have HROW:=Jh hrow
  have HX:=Jh hx
  have hsz:=hx.size
  clear hrow hx
  by_cases hlt:k<n
  ·obtain rfl:=HA.out (by omega)
   obtain rfl:=HA'.out (by omega)
   have hz:=Bools.cell (a:=none) (n:=0) (cap:=0) (k:=k) (HR.out.mono fun x _ b o h=>Has.ext h HX.out) (by rw [setB_length];exact hlt)
   have hz':=Bools.cell (a:=none) (n:=0) (cap:=0) (k:=k) (HR'.out.mono fun x _ b o h=>Has.ext h HX.out) (by rw [setB_length];exact hlt)
   rw [setB_getElem] at hz hz'
   have hm:=setB_succ k R
   rw [HRR.out k hlt] at hm
   have hml:=setB_length k R
   generalize decide ((k:Int)∈S)=x at *
   generalize decide ((k:Int)∈S')=y at *
   obtain ⟨z,hzz⟩:∃ z,(Bool.and x y)=z:=⟨_,rfl⟩
   rw [hzz] at hm
   have HM2:=Jh hm
   have HZ:=Jh hzz
   have HML:=Jh hml
   clear hm hzz hml
   have hx2:=ext_alloc wr (.cells [Value.bool z].toArray 4)
   have hb2:=Blk.new wr [Value.bool z].toArray 4
   have HX2:=Jh hx2
   have HB2:=Jh hb2
   clear hx2 hb2
   cases x
   all_goals cases y
   all_goals (
    obtain rfl:=HZ.out
    go_wp2_with ((with_reducible show Jw (Op.buildSlice _ _ _));refine Hid.out ?_)
    refine Jh ?_
    refine wpList_bs1 rfl _ _ rfl appBool rfl (cs:=[.bool _]) rfl rfl (by decide) ?_
    refine wpList_appBI rfl _ _ rfl rfl (HROW.out.ext HX2.out) rfl (fun _=>Nat.lt_of_lt_of_le Nat.zero_lt_one (Nat.le_refl 1)) (news:=[_]) rfl (bnews_has HB2.out.has) (by rw [HML.out];omega) (by rw [World.size_alloc];omega) ?_
    intro g3 cap3 w3 hrow3 hg3
    have hX3:Ext w w3:=Ext.grownO (HX.out.trans HX2.out) hg3 (fun j hj=>(HROW.out.at hj).1)
    have hm3:=HM2.out
    simp only [Bool.or_false,Bool.or_true,Bool.and_false,Bool.and_true] at hm3
    have hrow4:BoolRow w.heap.size (.slice (some ⟨g3,0,none⟩) (k+1) cap3) (setB (k+1) R) w3:=by
     rw [HML.out] at hrow3;rw [hm3];exact hrow3
    rw [HML.out]
    have HR3:=Jh hrow4
    clear hrow3 hg3 hrow4 hm3
    go_wp2_with fail
    go_roundw
    case rel=>exact ⟨k+1,hlt,by go_num,HR3.out,hX3⟩
    case measure=>simp [intOf];omega)
  ·obtain rfl:k=n:=by omega
   go_wp2_with fail
   go_ret
   exact ⟨_,rfl,HROW.out,HX.out⟩
/-! ### filigreeref11.starts -/
def offsL (ls:List Signal) (k:Nat):List Int:=(List.range k).map (sumW ls)
theorem offsL_succ (ls:List Signal) (k:Nat):offsL ls (k+1)=offsL ls k++[sumW ls k]:=by unfold offsL;rw [List.range_succ,List.map_append];rfl
theorem offsL_length (ls:List Signal) (k:Nat):(offsL ls k).length=k:=by simp [offsL]
theorem starts_calls (d:Flat) (v:Value) (w:World) (h:FlatV w v d) (hlen:d.signals.length<=1048576) (hw:∀ x∈d.signals,1<=x.w/\x.w<=64) :
  Calls Tryz.prog 65 #[v] w fun r w'=>∃ u,r=.returned u/\IntRow w.heap.size u (offsD d) w'/\Ext w w':=by
 obtain ⟨sv,pv,cv,rfl,hS,hP,hC⟩:=h
 have HX:=Jh (ext_alloc w (.cells [sv,pv,cv].toArray 26))
 have HB:=Jh (Blk.new w [sv,pv,cv].toArray 26)
 obtain ⟨a0,b0,o0,c0,rfl,hc1,hc2,ha,hr⟩:=hS.open
 have HA:=Jh ha
 have HR:=Jh hr
 have HW:=Jh hw
 clear hS hP hC ha hr hw
 go_enter Tryz.func65,Tryz.ntmps65
 go_upto_region 1 with fail
 have hs1:(w.alloc (.cells [.slice a0 d.signals.length c0,pv,cv].toArray 26)).heap.size=w.heap.size+1:=by simp
 generalize w.alloc _=w1 at *
 go_wp2_with fail
 go_loopw [3,4,5] (fun n u i wr=>∃ k:Nat,k<=d.signals.length/\i=.int .i64 k/\n=.int .i64 (sumW d.signals k)/\IntRow w1.heap.size u (offsL d.signals k) wr/\Ext w1 wr) (fun _ _ i _=>d.signals.length-(intOf i).toNat)
 case atStart=>exact ⟨0,Nat.zero_le _,rfl,rfl,IntRow.nil _ _,Below.refl _ _⟩
 case round =>
  obtain ⟨k,hk,rfl,rfl,hrow,hx⟩:=hrel
  have HROW:=Jh hrow
  have HXR:=Jh hx
  have hsz:=hx.size
  have z0:=(HB.out.ext hx).has 0 _ rfl
  rw [Nat.zero_add] at z0
  clear hrow hx
  have hlk:=offsL_length d.signals k
  have hsucc:=offsL_succ d.signals k
  have hbd:=sumW_le d.signals HW.out k hk
  by_cases hlt:k<d.signals.length
  ·obtain rfl:=HA.out (by omega)
   have hhas:Has wr b0 (o0+k*4) d.signals[k].cells:=Sigs.get (HR.out.mono fun x _ b o h=>SigAt.ext' (HX.out.trans HXR.out) h) hlt
   have hwk:=HW.out _ (List.getElem_mem hlt)
   have hsw:=sumW_succ d.signals k hlt
   have hbd1:=sumW_le d.signals HW.out (k+1) hlt
   obtain ⟨x,hxk⟩:∃ x,d.signals[k]=x:=⟨_,rfl⟩
   have HXK:=Jh hxk
   rw [hxk] at hwk hsw hhas
   obtain ⟨s0,hs0⟩:∃ s0,sumW d.signals k=s0:=⟨_,rfl⟩
   obtain ⟨s1,hs1'⟩:∃ s1,sumW d.signals (k+1)=s1:=⟨_,rfl⟩
   have HS1:=Jh hs1'
   rw [hs1'] at hbd1 hsw
   rw [hs0] at hbd hsw hsucc ⊢
   have HB1:=Jh hbd1
   clear hxk hs0 hs1' hbd1
   have HSUCC:=Jh hsucc
   have HLK:=Jh hlk
   have HSW:=Jh hsw
   have HHAS:=Jh hhas
   clear hsucc hlk hsw hhas
   go_wp2_with ((with_reducible show Jw (Op.buildSlice _ _ _));refine Hid.out ?_)
   refine Jh ?_
   refine wpList_bs1 rfl _ _ rfl appInt rfl (cs:=[.int .i64 s0]) rfl rfl (by decide) ?_
   have hx2:=ext_alloc wr (.cells [Value.int .i64 s0].toArray 3)
   have hb2:=Blk.new wr [Value.int .i64 s0].toArray 3
   have hs2:(wr.alloc (.cells [Value.int .i64 s0].toArray 3)).heap.size=wr.heap.size+1:=by simp
   refine wpList_appI rfl _ _ rfl rfl (HROW.out.ext hx2) rfl (fun _=>Nat.lt_of_lt_of_le Nat.zero_lt_one (Nat.le_refl 1)) (news:=[s0]) rfl (news_has hb2.has) (by rw [HLK.out];omega) (by omega) ?_
   intro g3 cap3 w3 hrow3 hg3
   have hX3:Ext w1 w3:=Ext.grownO (HXR.out.trans hx2) hg3 (fun j hj=>(HROW.out.at hj).1)
   have z0:=(HB.out.ext hX3).has 0 _ rfl
   rw [Nat.zero_add] at z0
   have hw3:w3.cell? ⟨b0,o0+k*4+1,none⟩=some (.int .i64 x.w):=by
    have hhas:Has w3 b0 (o0+k*4) d.signals[k].cells:=Sigs.get (HR.out.mono fun x _ b o h=>SigAt.ext' (HX.out.trans hX3) h) hlt
    have:=hhas 1 _ rfl
    rw [HXK.out] at this
    exact this
   rw [<-HSUCC.out,HLK.out] at hrow3
   rw [HLK.out]
   have HR3:=Jh hrow3
   have hadd:s0+x.w=s1:=HSW.out.symm
   have hb1:=HB1.out
   clear hrow3 hg3 hb2 hx2 hs2
   go_wp2_with fail
   go_roundw
   case rel=>exact ⟨k+1,hlt,by go_num,by rw [HS1.out],HR3.out,hX3⟩
   case measure=>simp [intOf];omega
  ·obtain rfl:k=d.signals.length:=by omega
   have HSUCC:=Jh hsucc
   have HLK:=Jh hlk
   obtain ⟨s0,hs0⟩:∃ s0,sumW d.signals d.signals.length=s0:=⟨_,rfl⟩
   rw [hs0] at HSUCC ⊢
   clear hsucc hlk hbd hs0
   go_wp2_with ((with_reducible show Jw (Op.buildSlice _ _ _));refine Hid.out ?_)
   refine Jh ?_
   refine wpList_bs1 rfl _ _ rfl appInt rfl (cs:=[.int .i64 s0]) rfl rfl (by decide) ?_
   have hx2:=ext_alloc wr (.cells [Value.int .i64 s0].toArray 3)
   have hb2:=Blk.new wr [Value.int .i64 s0].toArray 3
   have hs2:(wr.alloc (.cells [Value.int .i64 s0].toArray 3)).heap.size=wr.heap.size+1:=by simp
   refine wpList_appI rfl _ _ rfl rfl (HROW.out.ext hx2) rfl (fun _=>Nat.lt_of_lt_of_le Nat.zero_lt_one (Nat.le_refl 1)) (news:=[s0]) rfl (news_has hb2.has) (by rw [HLK.out];omega) (by omega) ?_
   intro g3 cap3 w3 hrow3 hg3
   have hX3:Ext w1 w3:=Ext.grownO (HXR.out.trans hx2) hg3 (fun j hj=>(HROW.out.at hj).1)
   rw [<-HSUCC.out] at hrow3
   have HR3:=Jh hrow3
   clear hrow3 hg3 hb2 hx2 hs2
   go_wp2_with fail
   go_ret
   exact ⟨_,rfl,HR3.out.less HX.out.size,HX.out.trans hX3⟩
/-! ### filigreeref11.span -/
theorem span_calls (n:Nat) (S offs:List Int) (s:Span) (iv ov:Value) (w:World) (hi:Bools w iv (setB n S)) (ho:Ints w ov offs) (hn:n<=1073741824)
  (hs:NumOk offs s) (hr:∀ j:Int,s.lo<=j->j<=s.hi->0<=offs.getD s.sig.toNat 0+j/\offs.getD s.sig.toNat 0+j<n) (ho2:∀ o∈offs,0<=o/\o<=1099511627776) :
  Calls Tryz.prog 96 #[iv,ov,.int .i64 s.sig,.int .i64 s.hi,.int .i64 s.lo] w fun r w'=>∃ u,r=.returned u/\BoolRow w.heap.size u (setB n (S++numsOf offs s)) w'/\Ext w w':=by
 obtain ⟨sig,hi',lo⟩:=s
 obtain ⟨q1,q2,q3,q4,q5⟩:=hs
 simp only at q1 q2 q3 q4 q5 hr ⊢
 have hone:=hi.one
 have HI:=Jh hi
 obtain ⟨a,b,o,cap,rfl,hc1,hc2,ha,hrr⟩:=ho.open
 obtain rfl:=ha (by omega)
 obtain ⟨sg,rfl⟩:∃ sg:Nat,sig=sg:=⟨sig.toNat,by omega⟩
 have hsl:sg<offs.length:=by omega
 have hrg:=ho2 _ (List.getElem_mem hsl)
 have HNF:=Jh (numsK_full offs ⟨(sg:Int),hi',lo⟩)
 have hget:offs.getD ((sg:Int)).toNat 0=offs[sg]:=by rw [Int.toNat_natCast,List.getD_eq_getElem?_getD,List.getElem?_eq_getElem hsl];rfl
 have HNK:=Jh (fun k=>numsK_succ offs ⟨(sg:Int),hi',lo⟩ k)
 simp only [hget] at hr HNK
 have HRG:=Jh hr
 have HZ:=Jh (fun W (hx:Ext w W)=>Ints.cell (hrr.mono fun x _ b o h=>Has.ext h hx) hsl)
 generalize offs[sg]=z0 at *
 clear hi ho ho2 hrr hget hr ha
 go_enter Tryz.func96,Tryz.ntmps96
 go_wp2_with ((with_reducible show Jw (Op.buildSlice _ _ _));refine Hid.out ?_)
 refine Jh ?_
 refine wpList_bs0 rfl _ rfl appBool ?_
 have hx1:=ext_alloc w (.cells #[] 4)
 have hr1:=BoolRow.bs0 w (Nat.le_refl w.heap.size)
 have hs1:(w.alloc (.cells #[] 4)).heap.size=w.heap.size+1:=by simp
 go_wp2_with ((with_reducible show Jw (Op.call { callee:=.builtin .append,args:=_,argTypes:=_ }));refine Hid.out ?_)
 refine Jh ?_
 refine wpList_appB rfl _ _ rfl rfl hr1 rfl (HI.out.ext hx1) (by rw [setB_length];simp;omega) (by omega) ?_
 intro v2 w2 hr2 hg2
 rw [List.nil_append] at hr2
 have hx2:Ext w w2:=Ext.grownO hx1 hg2 (fun k hk=>by cases hk;exact Nat.le_refl _)
 have HR2:=Jh hr2
 have HX2:=Jh hx2
 clear hr2 hg2 hx2 hx1 hr1 hs1
 go_wp2_with fail
 go_loopw [12] (fun i wr=>∃ k:Nat,(k:Int)<=max 0 (hi'-lo+1)/\i=.int .i64 (lo+k)/\BoolRow w.heap.size v2 (setB n (S++numsK offs ⟨(sg:Int),hi',lo⟩ k)) wr/\Ext w wr) (fun i _=>(hi'+1-intOf i).toNat)
 case atStart=>exact ⟨0,by omega,by congr 1;omega,by simpa [numsK] using HR2.out,HX2.out⟩
 case round =>
  obtain ⟨k,hk,rfl,hrow,hx⟩:=hrel
  have HROW:=Jh hrow
  have HXR:=Jh hx
  clear hrow hx
  by_cases hlt:lo+(k:Int)<=hi'
  ·have hz:=HZ.out wr HXR.out
   obtain ⟨hj1,hj2⟩:=HRG.out (lo+(k:Int)) (by omega) hlt
   obtain ⟨j,hj⟩:∃ j:Nat,z0+(lo+(k:Int))=(j:Int):=⟨(z0+(lo+(k:Int))).toNat,by omega⟩
   have hnk:=HNK.out k
   try simp only at hnk
   rw [hj] at hnk
   have hjn:j<n:=by omega
   have hset:=setB_set n (S++numsK offs ⟨(sg:Int),hi',lo⟩ k) (j:Int) (by omega)
   rw [List.append_assoc,<-hnk,Int.toNat_natCast] at hset
   have hrow0:=HROW.out
   rcases hrow0.cases' with ⟨e1,e2⟩ | ⟨g,cap2,e1,hgN⟩
   ·have:=congrArg List.length e2
    rw [setB_length] at this
    simp at this;omega
   ·rw [setB_length] at e1
    subst e1
    have hjl:j<(setB n (S++numsK offs ⟨(sg:Int),hi',lo⟩ k)).length:=by rw [setB_length];exact hjn
    obtain ⟨c1,c2⟩:=hrow0.cellf hjl
    have hrow1:=hrow0.set j hjl true
    rw [hset] at hrow1
    have hg1:=gb_set wr g j (.bool true)
    have hx1:Ext w (wr.setCell ⟨g,j,none⟩ (.bool true)):=HXR.out.grown hg1 hgN
    have HR1:=Jh hrow1
    have HX1:=Jh hx1
    obtain ⟨bv,hbv⟩:∃ bv,(setB n (S++numsK offs ⟨(sg:Int),hi',lo⟩ k))[j]=bv:=⟨_,rfl⟩
    rw [hbv] at c1
    obtain ⟨i0,hi0⟩:∃ i0:Int,lo+(k:Int)=i0:=⟨_,rfl⟩
    rw [hi0] at hj hlt ⊢
    have HI0:=Jh hi0
    clear hrow0 hset hnk hrow1 hg1 hx1 hj1 hj2 hi0 hbv
    go_wp2_with fail
    go_roundw
    case rel=>exact ⟨k+1,by have:=HI0.out;omega,by congr 1;have:=HI0.out;push_cast;omega,HR1.out,HX1.out⟩
    case measure=>simp [intOf];omega
  ·have e:(k:Int)=max 0 (hi'-lo+1):=by omega
   have e2:k=(hi'-lo+1).toNat:=by omega
   subst e2
   rw [HNF.out] at HROW
   have hlt2:hi'<lo+(((hi'-lo+1).toNat:Nat):Int):=by omega
   obtain ⟨i0,hi0⟩:∃ i0:Int,lo+(((hi'-lo+1).toNat:Nat):Int)=i0:=⟨_,rfl⟩
   rw [hi0] at hlt2 hlt ⊢
   clear hk e hi0
   go_wp2_with fail
   go_ret
   exact ⟨_,rfl,HROW.out,HXR.out⟩
def nB (d:Flat):Nat:=(nBits d).toNat
theorem spanR (ls:List Signal) (hw:∀ x∈ls,1<=x.w/\x.w<=64) {s:Span} (h:SpanD ls s) {n:Nat} (hn:n=(sumW ls ls.length).toNat):∀ j:Int,s.lo<=j->j<=s.hi->0<=(offsM ls ls.length).getD s.sig.toNat 0+j/\(offsM ls ls.length).getD s.sig.toNat 0+j<n:=by
 intro j h1 h2
 have:=allNums_range ls (xs:=[s]) (fun x hx=>by rw [List.mem_singleton.1 hx];exact h) hw ((offsM ls ls.length).getD s.sig.toNat 0+j) (by
  unfold allNums
  simp only [List.map_cons,List.map_nil,List.flatten_cons,List.flatten_nil,List.append_nil]
  exact (mem_numsOf _ _ _).2 ⟨j,h1,h2,rfl⟩)
 omega
theorem allNums_one (offs:List Int) (s:Span):allNums offs [s]=numsOf offs s:=by unfold allNums;simp
/-! ### filigreeref11.readE -/
def ReadESaid (d:Flat) (e:E):Prop:=∀ (S:List Int) (iv fv ov:Value) (cs:List Value) (w:World),Bools w iv (setB (nB d) S)->FlatV w fv d->Ints w ov (offsD d)->VE w cs e ->
 Calls Tryz.prog 95 #[iv,fv,ov,.agg cs.toArray] w fun r w'=>∃ u,r=.returned u/\Bools w' u (setB (nB d) (S++allNums (offsD d) (partsE d.signals e)))/\Ext w w'
theorem readE_calls {d:Flat} (hok:d.ok) (hck:checkM d=0) (e:E):shape d.signals e=true->nodes e<=1048576->ReadESaid d e:=by
 induction e using E.ind with
 | h e ih =>
 intro hsh hnb S iv fv ov cs w hI hF hO hV
 have hw:=checkM_w hck
 have hnB:=nBits_le hok hck
 have hob:=offsM_bound d.signals hw hok.signals
 have hnn:nB d<=1073741824:=by unfold nB;omega
 have hpar:∀ x∈e.l,ReadESaid d x:=fun x hx=>ih x hx (by rw [shape_eq,Bool.and_eq_true] at hsh;exact List.all_eq_true.1 hsh.2 x hx) (by rw [nodes_eq] at hnb;have:=le_sumBy nodes e.l _ hx;omega)
 have IH:=Jh hpar
 obtain ⟨pre,hpre0,hpreS,hpreL⟩:∃ pre:Nat->List Span,pre 0=spans0 d.signals e.op e.sig e.hi e.lo/\(∀ k (hk:k<e.l.length),pre (k+1)=pre k++partsE d.signals e.l[k])/\pre e.l.length=partsE d.signals e :=
  ⟨fun k=>spans0 d.signals e.op e.sig e.hi e.lo++((e.l.take k).map (partsE d.signals)).flatten,by simp only [List.take_zero,List.map_nil,List.flatten_nil,List.append_nil],fun k hk=>by simp only [take_snoc _ _ hk,List.map_append,List.flatten_append,List.map_cons,List.map_nil,List.flatten_cons,List.flatten_nil,List.append_nil,List.append_assoc],by simp only [List.take_length];rw [partsE_eq d.signals e]⟩
 have hs0:∀ s∈spans0 d.signals e.op e.sig e.hi e.lo,NumOk (offsD d) s/\SpanD d.signals s:=fun s hs =>
  ⟨partsE_ok d.signals hw e hsh s (by rw [partsE_eq];exact List.mem_append_left _ hs),partsE_span d.signals e hsh s (by rw [partsE_eq];exact List.mem_append_left _ hs)⟩
 have hlen:e.l.length<=1048576:=by rw [nodes_eq] at hnb;have:=length_le_sumBy nodes e.l fun t _=>nodes_pos t;omega
 have HP0:=Jh hpre0
 have HPS:=Jh hpreS
 have HPL:=Jh hpreL
 have HFV:=Jh hF
 have HOV:=Jh hO
 have HIV:=Jh hI
 have hone:=hI.one
 have hone2:=hO.one
 have HSC:=Jh (fun (s:Span) (hs:s∈spans0 d.signals e.op e.sig e.hi e.lo) (iv:Value) W (hx:Ext w W) (hI:Bools W iv (setB (nB d) S))=>span_calls (nB d) S (offsD d) s iv ov W hI (hO.ext hx) hnn (hs0 s hs).1 (spanR d.signals hw (hs0 s hs).2 rfl) hob)
 have HS0:=Jh hs0
 have HNS:=Jh hok.signals
 have HW:=Jh hw
 obtain ⟨sv,pv,cv,rfl,hS,-,-⟩:=hF
 obtain ⟨a1,b1,o1,c1,rfl,hd1,hd2,ha1,hr1⟩:=hS.open
 have HA1:=Jh ha1
 have HR1:=Jh hr1
 obtain ⟨s,rfl,hs⟩:=hV
 obtain ⟨a,b,o,cap,hsl,hc1,hc2,ha,hr⟩:=hs.open
 subst hsl
 have HR:=Jh hr
 have HA:=Jh ha
 have hx1:=ext_alloc w (.cells [.slice a1 d.signals.length c1,pv,cv].toArray 26)
 have hx2:=ext_alloc (w.alloc (.cells [.slice a1 d.signals.length c1,pv,cv].toArray 26)) (.cells (e.cells (.slice a e.l.length cap)).toArray 64)
 have hb1:=(Blk.new w [.slice a1 d.signals.length c1,pv,cv].toArray 26).ext hx2
 have hb2:=Blk.new (w.alloc (.cells [.slice a1 d.signals.length c1,pv,cv].toArray 26)) (e.cells (.slice a e.l.length cap)).toArray 64
 have hX:=hx1.trans hx2
 rw [World.size_alloc] at hb2
 clear ih hpar hpre0 hpreS hpreL hs0 hw hnB hob hI hO hs hr ha hr1 ha1 hS hsh hnb hck hx1 hx2
 go_enter Tryz.func95,Tryz.ntmps95
 go_upto_region 1 with fail
 generalize (w.alloc _).alloc _=w0 at *
 have HB1:=Jh hb1
 have HB2:=Jh hb2
 have HX:=Jh hX
 have g0:=hb2.has 0 _ rfl
 have g3:=hb2.has 3 _ rfl
 have g4:=hb2.has 4 _ rfl
 have g5:=hb2.has 5 _ rfl
 rw [Nat.zero_add] at g0 g3 g4 g5
 clear hb1 hb2 hX
 have HB20:=Jh g0
 clear g0
 have g0:=HB20.out
 obtain ⟨c2,hc2'⟩:∃ c2,(e.op==2)=c2:=⟨_,rfl⟩
 go_upto_if 12 with fail
 go_cut [0] from 12 to 21 (fun u wx=>Bools wx u (setB (nB d) (S++allNums (offsD d) (if e.op=2 then [⟨e.sig,e.hi,e.lo⟩] else [])))/\Ext w0 wx)
 case first =>
  by_cases o2:e.op=2
  ·have hsp:spans0 d.signals e.op e.sig e.hi e.lo=[⟨e.sig,e.hi,e.lo⟩]:=by unfold spans0;rw [if_pos o2]
   have b2:(e.op==2)=true:=by rw [beq_iff_eq];exact o2
   obtain rfl:c2=true:=by rw [<-hc2',b2]
   have HC:=Jh (HSC.out ⟨e.sig,e.hi,e.lo⟩ (by rw [hsp];exact List.mem_singleton.2 rfl) iv _ HX.out (HIV.out.mono fun x _ b o h=>Has.ext h HX.out))
   have HP:=Jh (show allNums (offsD d) (if e.op=2 then [⟨e.sig,e.hi,e.lo⟩] else [])=numsOf (offsD d) ⟨e.sig,e.hi,e.lo⟩ by rw [if_pos o2,allNums_one])
   clear hsp o2 b2 hc2'
   go_wp2_with (first | (go_at_call 96;refine HC.out.mono ?_;rintro r w3 ⟨u,rfl,hu,hx3⟩))
   go_meet
   exact ⟨by rw [HP.out];exact hu.cells,hx3⟩
  ·have b2:(e.op==2)=false:=by rw [beq_eq_false_iff_ne];exact o2
   obtain rfl:c2=false:=by rw [<-hc2',b2]
   have HP:=Jh (show allNums (offsD d) (if e.op=2 then [⟨e.sig,e.hi,e.lo⟩] else [])=[] by rw [if_neg o2];rfl)
   clear o2
   go_wp2_with fail
   go_meet
   exact ⟨by rw [HP.out,List.append_nil];exact HIV.out.mono fun x _ b o h=>Has.ext h HX.out,Below.refl _ _⟩
 case rest =>
 rename_i v0 wc
 obtain ⟨hu,hxc⟩:=hcut
 have HU1:=Jh hu
 have HXC1:=Jh hxc
 clear hu hxc g0 g3 g4 g5
 have g0:=(HB2.out.ext HXC1.out).has 0 _ rfl
 rw [Nat.zero_add] at g0
 obtain ⟨c3,hc3'⟩:∃ c3,(e.op==3)=c3:=⟨_,rfl⟩
 go_upto_if 24 with fail
 go_cut [0] from 24 to 37 (fun u wx=>Bools wx u (setB (nB d) (S++allNums (offsD d) (pre 0)))/\Ext w0 wx)
 case first =>
   by_cases o3:e.op=3
   ·have hsp:spans0 d.signals e.op e.sig e.hi e.lo=[⟨e.sig,sigW d.signals e.sig-1,0⟩]:=by unfold spans0;rw [if_neg (by rw [o3];decide),if_pos o3]
    have HC:=Jh (HSC.out ⟨e.sig,sigW d.signals e.sig-1,0⟩ (by rw [hsp];exact List.mem_singleton.2 rfl))
    have HP:=Jh (show allNums (offsD d) (pre 0)=numsOf (offsD d) ⟨e.sig,sigW d.signals e.sig-1,0⟩ by rw [HP0.out,hsp,allNums_one])
    obtain ⟨q1,q2,-⟩:=(HS0.out ⟨e.sig,sigW d.signals e.sig-1,0⟩ (by rw [hsp];exact List.mem_singleton.2 rfl)).2
    simp only at q1 q2
    obtain ⟨k,hk⟩:∃ k:Nat,e.sig=k:=⟨e.sig.toNat,by omega⟩
    have hkl:k<d.signals.length:=by omega
    have hsw:sigW d.signals e.sig=d.signals[k].w:=by unfold sigW;rw [hk,Int.toNat_natCast,List.getElem?_eq_getElem hkl]
    have hwk:=HW.out _ (List.getElem_mem hkl)
    have HSG:=Jh (fun W (hx:Ext w W)=>(Sigs.get (HR1.out.mono fun x _ b o h=>SigAt.ext' hx h) hkl:Has W b1 (o1+k*4) d.signals[k].cells))
    rw [hsw] at HC HP
    rw [hk] at HC HP
    have HU2:=Jh (show Bools _ _ (setB (nB d) S) by have:=HU1.out;rw [if_neg (by rw [o3];decide)] at this;simpa [allNums] using this)
    obtain rfl:=HA1.out (by omega)
    generalize d.signals[k]=x at *
    clear hsp hsw
    have b3:(e.op==3)=true:=by rw [beq_iff_eq];exact o3
    obtain rfl:c3=true:=by rw [<-hc3',b3]
    have HK:=Jh hk
    clear b3 o3 q1 q2 hk
    go_upto_region 4 with fail
    clear g0
    refine Jg wc fun hH=>?_
    try simp only [J]
    (refine Jt 0 (_) rfl (yif_load1 rfl fun _ _=>rfl) hH ?_;try simp only [J])
    (refine Jt 1 (_) rfl (yif_load1 rfl fun _ _=>rfl) hH ?_;try simp only [J])
    (refine Jt 2 (_) rfl (yif_load1 rfl fun _ _=>rfl) hH ?_;try simp only [J])
    (refine Jt 3 (.int .i64 (k:Int)) rfl (yif_load1 rfl (by intro W hW;have y:=(HB2.out.ext (HXC1.out.trans hW)).has 3 _ rfl;rw [Nat.zero_add] at y;clear hW;go_simp;rw [HK.out])) hH ?_;try simp only [J])
    (refine Jt 4 (_) rfl (yif_load1 rfl fun _ _=>rfl) hH ?_;try simp only [J])
    (refine Jt 5 (.slice (some ⟨b1,o1,Option.none⟩) d.signals.length c1) rfl (yif_load1 rfl (by intro W hW;have y:=(HB1.out.ext (HXC1.out.trans hW)).has 0 _ rfl;rw [Nat.zero_add] at y;clear hW;go_simp)) hH ?_;try simp only [J])
    (refine Jt 6 (_) rfl (yif_load1 rfl fun _ _=>rfl) hH ?_;try simp only [J])
    (refine Jt 7 (.int .i64 (k:Int)) rfl (yif_load1 rfl (by intro W hW;have y:=(HB2.out.ext (HXC1.out.trans hW)).has 3 _ rfl;rw [Nat.zero_add] at y;clear hW;go_simp;rw [HK.out])) hH ?_;try simp only [J])
    (refine Jt 8 (.pointer (some ⟨b1,o1+k*4,Option.none⟩)) rfl (yif_load1 rfl (by intro W hW;clear hW;go_simp;try (intro h;omega))) hH ?_;try simp only [J])
    (refine Jt 9 (_) rfl (yif_load1 rfl (by intro W hW;clear hW;go_simp;rfl)) hH ?_;try simp only [J])
    (refine Jt 10 (.int .i64 x.w) rfl (yif_load1 rfl (by intro W hW;have y:=HSG.out W (HX.out.trans (HXC1.out.trans hW)) 1 _ rfl;clear hW;go_simp)) hH ?_;try simp only [J])
    (refine Jt 11 (.int .i64 (x.w-1)) rfl (yif_load1 rfl (by intro W hW;clear hW;go_simp;rw [IntKind.wrap_i64];omega)) hH ?_;try simp only [J])
    refine Jr 12 rfl fun K hK=>?_
    go_simp
    refine (HC.out _ _ (HX.out.trans (HXC1.out.trans hH)) (HU2.out.mono fun x _ b o h=>Has.ext h hH)).mono ?_
    rintro r w3 ⟨u,rfl,hu,hx3⟩
    refine hK.out _ _ (hH.trans hx3) (fun hH=>?_)
    clear hK K
    try simp only [J]
    (refine Jt 13 (_) rfl (yif_load1 rfl fun _ _=>rfl) hH ?_;try simp only [J])
    refine Jz ?_
    go_wp2_with fail
    go_meet
    exact ⟨by rw [HP.out];exact hu.cells,HXC1.out.trans hH⟩
   ·have b3:(e.op==3)=false:=by rw [beq_eq_false_iff_ne];exact o3
    obtain rfl:c3=false:=by rw [<-hc3',b3]
    have HP:=Jh (show pre 0=(if e.op=2 then [⟨e.sig,e.hi,e.lo⟩] else []) by rw [HP0.out];unfold spans0;rw [if_neg o3])
    clear o3
    go_wp2_with fail
    go_meet
    exact ⟨by rw [HP.out];exact HU1.out,HXC1.out⟩
 case rest =>
  obtain ⟨hu,hxc⟩:=hcut
  have HU:=Jh hu
  have HXC:=Jh hxc
  clear hu hxc g0
  go_wp2_with fail
  go_loopw [0,9] (fun u i wr=>∃ k:Nat,k<=e.l.length/\i=.int .i64 k/\Bools wr u (setB (nB d) (S++allNums (offsD d) (pre k)))/\Ext w0 wr) (fun _ i _=>e.l.length-(intOf i).toNat)
  case atStart=>exact ⟨0,Nat.zero_le _,rfl,HU.out,HXC.out⟩
  case round =>
   obtain ⟨k,hk,rfl,hrow,hx⟩:=hrel
   have HROW:=Jh hrow
   have HXR:=Jh hx
   have y7:=(HB2.out.ext hx).has 7 _ rfl
   rw [Nat.zero_add] at y7
   clear hrow hx
   by_cases hlt:k<e.l.length
   ·obtain rfl:=HA.out (by omega)
    have hps:=HPS.out k hlt
    have hih:=IH.out _ (List.getElem_mem hlt)
    obtain ⟨sk,hhas,hes⟩:=Es.get HR.out hlt
    generalize e.l[k]=x at *
    have HXK:=Jh hih
    have HH:=Jh hhas
    have HES:=Jh hes
    have HPK:=Jh (show (S++allNums (offsD d) (pre k))++allNums (offsD d) (partsE d.signals x)=S++allNums (offsD d) (pre (k+1)) by rw [hps,allNums_append,List.append_assoc])
    clear hps hih hhas hes
    go_upto_region 8 with fail
    clear y7
    refine Jg wr fun hH=>?_
    try simp only [J]
    (refine Jt 0 (_) rfl (yif_load1 rfl fun _ _=>rfl) hH ?_;try simp only [J])
    (refine Jt 1 (.agg #[.slice a1 d.signals.length c1,pv,cv]) rfl (yif_load rfl 26 _ rfl rfl (fun W hW=>(HB1.out.ext (HXR.out.trans hW)).has) agg_Flat rfl) hH ?_;try simp only [J])
    (refine Jt 2 (_) rfl (yif_load1 rfl fun _ _=>rfl) hH ?_;try simp only [J])
    (refine Jt 3 (_) rfl (yif_load1 rfl fun _ _=>rfl) hH ?_;try simp only [J])
    (refine Jt 4 (.slice (some ⟨b,o,Option.none⟩) e.l.length cap) rfl (yif_load1 rfl (by intro W hW;have y:=(HB2.out.ext (HXR.out.trans hW)).has 7 _ rfl;rw [Nat.zero_add] at y;clear hW;go_simp)) hH ?_;try simp only [J])
    (refine Jt 5 (_) rfl (yif_load1 rfl fun _ _=>rfl) hH ?_;try simp only [J])
    (refine Jt 6 (.pointer (some ⟨b,o+k*8,Option.none⟩)) rfl (yif_load1 rfl (by intro W hW;clear hW;go_simp;try (intro h;omega))) hH ?_;try simp only [J])
    (refine Jt 7 (.agg (x.cells sk).toArray) rfl (yif_load rfl 64 _ rfl rfl (fun W hW=>HH.out.ext (HX.out.trans (HXR.out.trans hW))) agg_E rfl) hH ?_;try simp only [J])
    refine Jr 8 rfl fun K hK=>?_
    go_simp
    refine (HXK.out _ _ _ ov _ _ (HROW.out.mono fun x _ b o h=>Has.ext h hH) (HFV.out.ext (HX.out.trans (HXR.out.trans hH))) (HOV.out.ext (HX.out.trans (HXR.out.trans hH))) ⟨sk,rfl,HES.out.ext (HX.out.trans (HXR.out.trans hH))⟩).mono ?_
    rintro r w3 ⟨u3,rfl,hu3,hx3⟩
    refine hK.out _ _ (hH.trans hx3) (fun hH=>?_)
    clear hK K
    try simp only [J]
    (refine Jt 9 (_) rfl (yif_load1 rfl fun _ _=>rfl) hH ?_;try simp only [J])
    refine Jz ?_
    rw [HPK.out] at hu3
    have HU3:=Jh hu3
    clear hu3
    go_wp2_with fail
    go_roundw
    case rel=>exact ⟨k+1,hlt,by go_num,HU3.out,HXR.out.trans hH⟩
    case measure=>simp [intOf];omega
   ·obtain rfl:k=e.l.length:=by omega
    rw [HPL.out] at HROW
    go_wp2_with fail
    go_ret
    exact ⟨_,rfl,HROW.out,HX.out.trans HXR.out⟩
theorem eachTs_take (l:List T) {k:Nat} (h:k<l.length):eachT.eachTs (l.take (k+1))=eachT.eachTs (l.take k)++(l[k]::eachT.eachTs l[k].l):=by
 rw [eachTs_eq,eachTs_eq,take_snoc _ _ h,List.map_append,List.flatten_append]
 simp [eachT_eq]
theorem wS_all (ts:List T):wS ts ts.length=(ts.filter (fun t=>t.op==1)).map ownS:=by unfold wS;rw [List.take_length]
theorem rS_all (ls:List Signal) (ts:List T):rS ls ts ts.length=(ts.map fun t=>(t.e.map (partsE ls)).flatten).flatten:=by unfold rS;rw [List.take_length]
theorem spansW_take (l:List T) {k:Nat} (h:k<l.length):spansW (l.take (k+1))=spansW (l.take k)++(if l[k].op=1 then [ownS l[k]] else [])++spansW l[k].l:=by
 unfold spansW
 rw [wS_all,wS_all,wS_all,eachTs_take l h,List.filter_append,List.map_append,List.append_assoc]
 congr 1
 by_cases h1:l[k].op=1
 ·rw [if_pos h1,List.filter_cons_of_pos (by rw [beq_iff_eq];exact h1)];rfl
 ·rw [if_neg h1,List.filter_cons_of_neg (by rw [beq_iff_eq];exact h1)];rfl
theorem spansR_take (ls:List Signal) (l:List T) {k:Nat} (h:k<l.length):spansR ls (l.take (k+1))=spansR ls (l.take k)++(l[k].e.map (partsE ls)).flatten++spansR ls l[k].l:=by
 unfold spansR
 rw [rS_all,rS_all,rS_all,eachTs_take l h,List.map_append,List.flatten_append,List.append_assoc]
 congr 1
/-! ### filigreeref11.writes -/
def WritesSaid (d:Flat) (l:List T):Prop:=∀ (S:List Int) (iv ov lv:Value) (w:World),Bools w iv (setB (nB d) S)->Ints w ov (offsD d)->Ts w lv l ->
 Calls Tryz.prog 70 #[iv,ov,lv] w fun r w'=>∃ u,r=.returned u/\Bools w' u (setB (nB d) (S++allNums (offsD d) (spansW l)))/\Ext w w'
theorem writes_step {d:Flat} (hok:d.ok) (hck:checkM d=0) (l:List T) (hst:∀ t∈l,StD d.signals t) (hnb:sumBy nodesT l<=1048576) (ih:∀ t∈l,WritesSaid d t.l):WritesSaid d l:=by
 intro S iv ov lv w hI hO hL
 have hw:=checkM_w hck
 have hnB:=nBits_le hok hck
 have hob:=offsM_bound d.signals hw hok.signals
 have hnn:nB d<=1073741824:=by unfold nB;omega
 have hlen:=Nat.le_trans (length_le_sumBy nodesT l fun t _=>nodesT_pos t) hnb
 have hone:=hI.one
 have hone2:=hO.one
 have HSC:=Jh (fun (S:List Int) (t:T) (ht:t∈l) (ho1:t.op=1) (iv:Value) W (hx:Ext w W) (hI:Bools W iv (setB (nB d) S)) =>
  span_calls (nB d) S (offsD d) (ownS t) iv ov W hI (hO.ext hx) hnn (numOk_slice d.signals hw (((StD_iff d.signals t).1 (hst t ht)).1 ho1)) (spanR d.signals hw (slice_span (((StD_iff d.signals t).1 (hst t ht)).1 ho1)) rfl) hob)
 have IH:=Jh ih
 have HOV:=Jh hO
 have HIV:=Jh hI
 have HTK:=Jh (fun k (h:k<l.length)=>spansW_take l h)
 obtain ⟨a,b,o,cap,rfl,hc1,hc2,ha,hr⟩:=hL.open
 have HR:=Jh hr
 have HA:=Jh ha
 clear hw hnB hob hnn hst hnb ih hI hO hL hr ha
 go_enter Tryz.func70,Tryz.ntmps70
 go_wp2_with fail
 go_loopw [0,7] (fun u i wr=>∃ k:Nat,k<=l.length/\i=.int .i64 k/\Bools wr u (setB (nB d) (S++allNums (offsD d) (spansW (l.take k))))/\Ext w wr) (fun _ i _=>l.length-(intOf i).toNat)
 case atStart=>exact ⟨0,Nat.zero_le _,rfl,by simpa [spansW,eachT.eachTs,wS,allNums] using HIV.out,Below.refl _ _⟩
 case round =>
  obtain ⟨k,hk,rfl,hrow,hx⟩:=hrel
  have HROW:=Jh hrow
  have HXR:=Jh hx
  clear hrow hx
  by_cases hlt:k<l.length
  ·obtain rfl:=HA.out (by omega)
   obtain ⟨s1,s2,hhas,he,ht⟩:=Ts.get HR.out hlt
   have htk:=HTK.out k hlt
   have hih:=IH.out _ (List.getElem_mem hlt)
   have HS1:=Jh (fun S hop iv W hx hI=>HSC.out S _ (List.getElem_mem hlt) hop iv W hx hI)
   generalize l[k]=t at *
   have HH:=Jh hhas
   have HTT:=Jh ht
   have HIH:=Jh hih
   have HTK1:=Jh htk
   have g0:=hhas.ext HXR.out 0 _ rfl
   rw [Nat.add_zero] at g0
   obtain ⟨S0,hS0⟩:∃ S0,S++allNums (offsD d) (spansW (l.take k))=S0:=⟨_,rfl⟩
   rw [hS0] at HROW
   have HS0:=Jh hS0
   clear hhas he ht hih htk hS0
   obtain ⟨c1,hc1'⟩:∃ c1,(t.op==1)=c1:=⟨_,rfl⟩
   go_upto_if 19 with fail
   go_cut [0] from 19 to 37 (fun u wx=>Bools wx u (setB (nB d) (S0++allNums (offsD d) (if t.op=1 then [ownS t] else [])))/\Ext w wx)
   case first =>
    by_cases o1:t.op=1
    ·have HC:=Jh (HS1.out S0 o1)
     have b1:(t.op==1)=true:=by rw [beq_iff_eq];exact o1
     obtain rfl:c1=true:=by rw [<-hc1',b1]
     have HO1:=Jh o1
     clear o1 b1 hc1'
     go_upto_region 5 with fail
     clear g0
     refine Jg wr fun hH=>?_
     try simp only [J]
     (refine Jt 0 (_) rfl (yif_load1 rfl fun _ _=>rfl) hH ?_;try simp only [J])
     (refine Jt 1 (_) rfl (yif_load1 rfl fun _ _=>rfl) hH ?_;try simp only [J])
     (refine Jt 2 (_) rfl (yif_load1 rfl fun _ _=>rfl) hH ?_;try simp only [J])
     (refine Jt 3 (_) rfl (yif_load1 rfl fun _ _=>rfl) hH ?_;try simp only [J])
     (refine Jt 4 (.pointer (some ⟨b,o+k*6,Option.none⟩)) rfl (yif_load1 rfl (by intro W hW;clear hW;go_simp;try (intro h;omega))) hH ?_;try simp only [J])
     (refine Jt 5 (_) rfl (yif_load1 rfl (by intro W hW;clear hW;go_simp;rfl)) hH ?_;try simp only [J])
     (refine Jt 6 (.int .i64 t.sig) rfl (yif_load1 rfl (by intro W hW;have y:=HH.out.ext (HXR.out.trans hW) 1 _ rfl;clear hW;go_simp)) hH ?_;try simp only [J])
     (refine Jt 7 (_) rfl (yif_load1 rfl fun _ _=>rfl) hH ?_;try simp only [J])
     (refine Jt 8 (_) rfl (yif_load1 rfl fun _ _=>rfl) hH ?_;try simp only [J])
     (refine Jt 9 (.pointer (some ⟨b,o+k*6,Option.none⟩)) rfl (yif_load1 rfl (by intro W hW;clear hW;go_simp;try (intro h;omega))) hH ?_;try simp only [J])
     (refine Jt 10 (_) rfl (yif_load1 rfl (by intro W hW;clear hW;go_simp;rfl)) hH ?_;try simp only [J])
     (refine Jt 11 (.int .i64 t.hi) rfl (yif_load1 rfl (by intro W hW;have y:=HH.out.ext (HXR.out.trans hW) 2 _ rfl;clear hW;go_simp)) hH ?_;try simp only [J])
     (refine Jt 12 (_) rfl (yif_load1 rfl fun _ _=>rfl) hH ?_;try simp only [J])
     (refine Jt 13 (_) rfl (yif_load1 rfl fun _ _=>rfl) hH ?_;try simp only [J])
     (refine Jt 14 (.pointer (some ⟨b,o+k*6,Option.none⟩)) rfl (yif_load1 rfl (by intro W hW;clear hW;go_simp;try (intro h;omega))) hH ?_;try simp only [J])
     (refine Jt 15 (_) rfl (yif_load1 rfl (by intro W hW;clear hW;go_simp;rfl)) hH ?_;try simp only [J])
     (refine Jt 16 (.int .i64 t.lo) rfl (yif_load1 rfl (by intro W hW;have y:=HH.out.ext (HXR.out.trans hW) 3 _ rfl;clear hW;go_simp)) hH ?_;try simp only [J])
     refine Jr 17 rfl fun K hK=>?_
     go_simp
     refine (HC.out _ _ (HXR.out.trans hH) (HROW.out.mono fun x _ b o h=>Has.ext h hH)).mono ?_
     rintro r w3 ⟨u3,rfl,hu3,hx3⟩
     refine hK.out _ _ (hH.trans hx3) (fun hH=>?_)
     clear hK K
     try simp only [J]
     (refine Jt 18 (_) rfl (yif_load1 rfl fun _ _=>rfl) hH ?_;try simp only [J])
     refine Jz ?_
     go_wp2_with fail
     go_meet
     exact ⟨by rw [if_pos HO1.out,allNums_one];exact hu3.cells,HXR.out.trans hH⟩
    ·have b1:(t.op==1)=false:=by rw [beq_eq_false_iff_ne];exact o1
     obtain rfl:c1=false:=by rw [<-hc1',b1]
     have HO1:=Jh o1
     clear o1 b1 hc1'
     go_wp2_with fail
     go_meet
     exact ⟨by rw [if_neg HO1.out];simpa [allNums] using HROW.out,HXR.out⟩
   case rest =>
    obtain ⟨hu,hxc⟩:=hcut
    have HU:=Jh hu
    have HXC:=Jh hxc
    have HC:=Jh (HIH.out _ _ ov s2 _ hu (HOV.out.ext hxc) (HTT.out.ext hxc))
    have HF:=Jh (show (S0++allNums (offsD d) (if t.op=1 then [ownS t] else []))++allNums (offsD d) (spansW t.l)=S++allNums (offsD d) (spansW (l.take (k+1))) by
     rw [HTK1.out,<-HS0.out,allNums_append,allNums_append];simp only [List.append_assoc])
    rw [HF.out] at HC
    have g5:=HH.out.ext hxc 5 _ rfl
    clear g0 hu hxc
    go_wp2_with (first | (go_at_call 70;refine HC.out.mono ?_;rintro r w3 ⟨u3,rfl,hu3,hx3⟩))
    go_roundw
    case rel=>exact ⟨k+1,hlt,by go_num,hu3,HXC.out.trans hx3⟩
    case measure=>simp [intOf];omega
  ·obtain rfl:k=l.length:=by omega
   rw [List.take_length] at HROW
   go_wp2_with fail
   go_ret
   exact ⟨_,rfl,HROW.out,HXR.out⟩
theorem writes_T {d:Flat} (hok:d.ok) (hck:checkM d=0) (t:T):StD d.signals t->nodesT t<=1048576->WritesSaid d t.l:=by
 induction t using T.ind with
 | h t ih =>
 intro hst hnb
 have h1:=((StD_iff d.signals t).1 hst).2.2.2
 have h2:=nodesT_eq t
 refine writes_step hok hck t.l h1 (by omega) fun x hx=>ih x hx (h1 x hx) ?_
 have:=le_sumBy nodesT t.l x hx
 omega
theorem writes_calls {d:Flat} (hok:d.ok) (hck:checkM d=0) (l:List T) (hst:∀ t∈l,StD d.signals t) (hnb:sumBy nodesT l<=1048576):WritesSaid d l :=
 writes_step hok hck l hst hnb fun t ht=>writes_T hok hck t (hst t ht) (Nat.le_trans (le_sumBy nodesT l t ht) hnb)
/-! ### filigreeref11.reads -/
def ReadsSaid (d:Flat) (l:List T):Prop:=∀ (S:List Int) (iv fv ov lv:Value) (w:World),Bools w iv (setB (nB d) S)->FlatV w fv d->Ints w ov (offsD d)->Ts w lv l ->
 Calls Tryz.prog 67 #[iv,fv,ov,lv] w fun r w'=>∃ u,r=.returned u/\Bools w' u (setB (nB d) (S++allNums (offsD d) (spansR d.signals l)))/\Ext w w'
theorem reads_step {d:Flat} (hok:d.ok) (hck:checkM d=0) (l:List T) (hst:∀ t∈l,StD d.signals t) (hnb:sumBy nodesT l<=1048576) (ih:∀ t∈l,ReadsSaid d t.l):ReadsSaid d l:=by
 intro S iv fv ov lv w hI hF hO hL
 have hlen:=Nat.le_trans (length_le_sumBy nodesT l fun t _=>nodesT_pos t) hnb
 have hone:=hI.one
 have hone2:=hO.one
 have HRE:=Jh (fun (t:T) (ht:t∈l) (x:E) (hx:x∈t.e)=>readE_calls hok hck x (((StD_iff d.signals t).1 (hst t ht)).2.2.1 x hx) (by
  have h1:=le_sumBy nodesT l t ht
  have h2:=nodesT_eq t
  have h3:=le_sumBy nodes t.e x hx
  omega))
 have HEL:=Jh (fun (t:T) (ht:t∈l)=>(by
  have h1:=le_sumBy nodesT l t ht
  have h2:=nodesT_eq t
  have h3:=length_le_sumBy nodes t.e fun t _=>nodes_pos t
  omega:t.e.length<=1048576))
 have IH:=Jh ih
 have HOV:=Jh hO
 have HIV:=Jh hI
 have HFV:=Jh hF
 have HTK:=Jh (fun k (h:k<l.length)=>spansR_take d.signals l h)
 obtain ⟨sv,pv,cv,rfl,hfs,hfp,hfc⟩:=hF
 obtain ⟨a,b,o,cap,rfl,hc1,hc2,ha,hr⟩:=hL.open
 have HR:=Jh hr
 have HA:=Jh ha
 have HX:=Jh (ext_alloc w (.cells [sv,pv,cv].toArray 26))
 have HB:=Jh (Blk.new w [sv,pv,cv].toArray 26)
 clear hst hnb ih hI hO hL hr ha hfs hfp hfc
 go_enter Tryz.func67,Tryz.ntmps67
 go_upto_region 1 with fail
 generalize w.alloc _=w1 at *
 go_wp2_with fail
 go_loopw [0,9] (fun u i wr=>∃ k:Nat,k<=l.length/\i=.int .i64 k/\Bools wr u (setB (nB d) (S++allNums (offsD d) (spansR d.signals (l.take k))))/\Ext w1 wr) (fun _ i _=>l.length-(intOf i).toNat)
 case atStart=>exact ⟨0,Nat.zero_le _,rfl,by simpa [spansR,eachT.eachTs,rS,allNums] using HIV.out.mono fun x _ b o h=>Has.ext h HX.out,Below.refl _ _⟩
 case round =>
  obtain ⟨k,hk,rfl,hrow,hx⟩:=hrel
  obtain ⟨wo,rfl⟩:∃ wo,wo=wr:=⟨_,rfl⟩
  have HROW:=Jh hrow
  have HXR:=Jh (HX.out.trans hx)
  have HX1:=Jh hx
  clear hrow hx
  by_cases hlt:k<l.length
  ·obtain rfl:=HA.out (by omega)
   obtain ⟨s1,s2,hhas,he,ht⟩:=Ts.get HR.out hlt
   have htk:=HTK.out k hlt
   have hih:=IH.out _ (List.getElem_mem hlt)
   have hre:=HRE.out _ (List.getElem_mem hlt)
   have hel:=HEL.out _ (List.getElem_mem hlt)
   generalize l[k]=t at *
   have HH:=Jh hhas
   have HTT:=Jh ht
   have HIH:=Jh hih
   have HTK1:=Jh htk
   have HRE1:=Jh hre
   obtain ⟨a2,b2,o2,cap2,rfl,hd1,hd2,ha2,hr2⟩:=he.open
   have HA2:=Jh ha2
   have HR2:=Jh hr2
   obtain ⟨S0,hS0⟩:∃ S0,S++allNums (offsD d) (spansR d.signals (l.take k))=S0:=⟨_,rfl⟩
   rw [hS0] at HROW
   have HS0:=Jh hS0
   clear hhas he ht hih htk hS0 hre ha2 hr2
   go_wp2_with fail
   go_loopw [0,10] (fun u i wi=>∃ j:Nat,j<=t.e.length/\i=.int .i64 j/\Bools wi u (setB (nB d) (S0++allNums (offsD d) ((t.e.take j).map (partsE d.signals)).flatten))/\Ext wo wi) (fun _ i _=>t.e.length-(intOf i).toNat)
   case atStart=>exact ⟨0,Nat.zero_le _,rfl,by simpa [allNums] using HROW.out,Below.refl _ _⟩
   case round =>
    obtain ⟨j,hj,rfl,hrow,hx⟩:=hrel
    have HROWI:=Jh hrow
    have HXI:=Jh hx
    have g4:=HH.out.ext (HXR.out.trans hx) 4 _ rfl
    clear hrow hx
    by_cases hjl:j<t.e.length
    ·obtain rfl:=HA2.out (by omega)
     obtain ⟨sk,hxh,hxs⟩:=Es.get HR2.out hjl
     have hxe:=HRE1.out _ (List.getElem_mem hjl)
     have htk2:=take_snoc t.e j hjl
     generalize t.e[j]=x at *
     have HXH:=Jh hxh
     have HXS:=Jh hxs
     have HXE:=Jh hxe
     have HF:=Jh (show (S0++allNums (offsD d) ((t.e.take j).map (partsE d.signals)).flatten)++allNums (offsD d) (partsE d.signals x)=S0++allNums (offsD d) ((t.e.take (j+1)).map (partsE d.signals)).flatten by
      rw [htk2,List.map_append,List.flatten_append,allNums_append];simp only [List.map_cons,List.map_nil,List.flatten_cons,List.flatten_nil,List.append_nil,List.append_assoc])
     clear hxh hxs hxe htk2
     go_upto_region 7 with fail
     clear g4
     refine Jg wr fun hH=>?_
     try simp only [J]
     (refine Jt 0 (_) rfl (yif_load1 rfl fun _ _=>rfl) hH ?_;try simp only [J])
     (refine Jt 1 (.agg #[sv,pv,cv]) rfl (yif_load rfl 26 _ rfl rfl (fun W hW=>(HB.out.ext (HX1.out.trans (HXI.out.trans hW))).has) agg_Flat rfl) hH ?_;try simp only [J])
     (refine Jt 2 (_) rfl (yif_load1 rfl fun _ _=>rfl) hH ?_;try simp only [J])
     (refine Jt 3 (_) rfl (yif_load1 rfl fun _ _=>rfl) hH ?_;try simp only [J])
     (refine Jt 4 (_) rfl (yif_load1 rfl fun _ _=>rfl) hH ?_;try simp only [J])
     (refine Jt 5 (.pointer (some ⟨b,o+k*6,Option.none⟩)) rfl (yif_load1 rfl (by intro W hW;clear hW;go_simp;try (intro h;omega))) hH ?_;try simp only [J])
     (refine Jt 6 (_) rfl (yif_load1 rfl (by intro W hW;clear hW;go_simp;rfl)) hH ?_;try simp only [J])
     (refine Jt 7 (.slice (some ⟨b2,o2,Option.none⟩) t.e.length cap2) rfl (yif_load1 rfl (by intro W hW;have y:=HH.out.ext (HXR.out.trans (HXI.out.trans hW)) 4 _ rfl;clear hW;go_simp)) hH ?_;try simp only [J])
     (refine Jt 8 (_) rfl (yif_load1 rfl fun _ _=>rfl) hH ?_;try simp only [J])
     (refine Jt 9 (.pointer (some ⟨b2,o2+j*8,Option.none⟩)) rfl (yif_load1 rfl (by intro W hW;clear hW;go_simp;try (intro h;omega))) hH ?_;try simp only [J])
     (refine Jt 10 (.agg (x.cells sk).toArray) rfl (yif_load rfl 64 _ rfl rfl (fun W hW=>HXH.out.ext (HXR.out.trans (HXI.out.trans hW))) agg_E rfl) hH ?_;try simp only [J])
     refine Jr 11 rfl fun K hK=>?_
     go_simp
     have HZ:=Jh (HXR.out.trans (HXI.out.trans hH))
     refine (HXE.out _ _ _ ov _ _ (HROWI.out.mono fun x _ b o h=>Has.ext h hH) (HFV.out.ext HZ.out) (HOV.out.ext HZ.out) ⟨sk,rfl,HXS.out.ext HZ.out⟩).mono ?_
     rintro r w3 ⟨u3,rfl,hu3,hx3⟩
     refine hK.out _ _ (hH.trans hx3) (fun hH=>?_)
     clear hK K
     try simp only [J]
     (refine Jt 12 (_) rfl (yif_load1 rfl fun _ _=>rfl) hH ?_;try simp only [J])
     refine Jz ?_
     rw [HF.out] at hu3
     have HU3:=Jh hu3
     clear hu3
     go_wp2_with fail
     go_roundw
     case rel=>exact ⟨j+1,hjl,by go_num,HU3.out,HXI.out.trans hH⟩
     case measure=>simp [intOf];omega
    ·obtain rfl:j=t.e.length:=by omega
     rw [List.take_length] at HROWI
     have HZ:=Jh (HXR.out.trans HXI.out)
     have HC:=Jh (fun W (hx:Ext wr W)=>HIH.out _ _ _ ov s2 W (HROWI.out.mono fun x _ b o h=>Has.ext h hx) (HFV.out.ext (HZ.out.trans hx)) (HOV.out.ext (HZ.out.trans hx)) (HTT.out.ext (HZ.out.trans hx)))
     have HF:=Jh (show (S0++allNums (offsD d) (t.e.map (partsE d.signals)).flatten)++allNums (offsD d) (spansR d.signals t.l)=S++allNums (offsD d) (spansR d.signals (l.take (k+1))) by
      rw [HTK1.out,<-HS0.out,allNums_append,allNums_append];simp only [List.append_assoc])
     rw [HF.out] at HC
     go_upto_region 8 with fail
     clear g4
     refine Jg wr fun hH=>?_
     try simp only [J]
     (refine Jt 0 (_) rfl (yif_load1 rfl fun _ _=>rfl) hH ?_;try simp only [J])
     (refine Jt 1 (.agg #[sv,pv,cv]) rfl (yif_load rfl 26 _ rfl rfl (fun W hW=>(HB.out.ext (HX1.out.trans (HXI.out.trans hW))).has) agg_Flat rfl) hH ?_;try simp only [J])
     (refine Jt 2 (_) rfl (yif_load1 rfl fun _ _=>rfl) hH ?_;try simp only [J])
     (refine Jt 3 (_) rfl (yif_load1 rfl fun _ _=>rfl) hH ?_;try simp only [J])
     (refine Jt 4 (_) rfl (yif_load1 rfl fun _ _=>rfl) hH ?_;try simp only [J])
     (refine Jt 5 (.pointer (some ⟨b,o+k*6,Option.none⟩)) rfl (yif_load1 rfl (by intro W hW;clear hW;go_simp;try (intro h;omega))) hH ?_;try simp only [J])
     (refine Jt 6 (_) rfl (yif_load1 rfl (by intro W hW;clear hW;go_simp;rfl)) hH ?_;try simp only [J])
     (refine Jt 7 (s2) rfl (yif_load1 rfl (by intro W hW;have y:=HH.out.ext (HXR.out.trans (HXI.out.trans hW)) 5 _ rfl;clear hW;go_simp)) hH ?_;try simp only [J])
     refine Jr 8 rfl fun K hK=>?_
     go_simp
     refine (HC.out _ hH).mono ?_
     rintro r w3 ⟨u3,rfl,hu3,hx3⟩
     refine hK.out _ _ (hH.trans hx3) (fun hH=>?_)
     clear hK K
     try simp only [J]
     (refine Jt 9 (_) rfl (yif_load1 rfl fun _ _=>rfl) hH ?_;try simp only [J])
     refine Jz ?_
     have HU3:=Jh hu3
     clear hu3
     go_wp2_with fail
     go_roundw
     case rel=>exact ⟨k+1,hlt,by go_num,HU3.out,HX1.out.trans (HXI.out.trans hH)⟩
     case measure=>simp [intOf];omega
  ·obtain rfl:k=l.length:=by omega
   rw [List.take_length] at HROW
   go_wp2_with fail
   go_ret
   exact ⟨_,rfl,HROW.out,HXR.out⟩
theorem reads_T {d:Flat} (hok:d.ok) (hck:checkM d=0) (t:T):StD d.signals t->nodesT t<=1048576->ReadsSaid d t.l:=by
 induction t using T.ind with
 | h t ih =>
 intro hst hnb
 have h1:=((StD_iff d.signals t).1 hst).2.2.2
 have h2:=nodesT_eq t
 refine reads_step hok hck t.l h1 (by omega) fun x hx=>ih x hx (h1 x hx) ?_
 have:=le_sumBy nodesT t.l x hx
 omega
theorem reads_calls {d:Flat} (hok:d.ok) (hck:checkM d=0) (l:List T) (hst:∀ t∈l,StD d.signals t) (hnb:sumBy nodesT l<=1048576):ReadsSaid d l :=
 reads_step hok hck l hst hnb fun t ht=>reads_T hok hck t (hst t ht) (Nat.le_trans (le_sumBy nodesT l t ht) hnb)
end Go.Proofs.YtaipaccpaljecaaGreat
