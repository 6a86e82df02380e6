/- Laws and walks that a claim of this seat leans on: Hangs. -/
import Derived.Test.YtoaamjgfhppppaaGreatT22
import Derived.Test.YtoaamjgfhppppaaGreatT00
set_option maxRecDepth 100000
set_option maxHeartbeats 8000000
set_option linter.all false
namespace Go.Proofs.YtoaamjgfhppppaaGreat
open Go.RowKit
/-! ### lint.hangs: on whom each process hangs -/
theorem info_ints:(Tryz.prog.info? 30).map (fun i=>(i.zero,i.size,i.bytes))=some (some (.slice none 0 0),1,24):=by kernel_rfl
theorem intsL_of {w:World} {B:Nat} {us:List Value} {T:TypeId} (h:Blk w B us.toArray T) {G:List (List Int)} (hl:us.length=G.length) (hm:G.length<=9223372036854775807) (hr:∀ (i:Nat) (l:List Int),G[i]? = some l->∃ u,us[i]? = some u/\Ints w u l) :
  IntsL w (.slice (some ⟨B,0,none⟩) G.length G.length) G:=by
 refine ⟨B,0,⟨_,G.length,rfl,Nat.le_refl _,by simpa [maxLen] using hm,fun _=>rfl⟩,?_⟩
 have key:∀ (G:List (List Int)) (us:List Value) (o:Nat),us.length=G.length->Has w B o us->(∀ (i:Nat) (l:List Int),G[i]? = some l->∃ u,us[i]? = some u/\Ints w u l)->Rows 1 (fun (x:List Int) b o=>∃ u,Has w b o [u]/\Ints w u x) G B o:=by
  intro G
  induction G with
  | nil=>intros;trivial
  | cons x G ih =>
   intro us o hl hh hr
   cases us with
   | nil=>simp at hl
   | cons u us =>
    obtain ⟨u',hu',hi⟩:=hr 0 x rfl
    simp at hu'
    subst hu'
    refine ⟨⟨u,fun j v hj=>?_,hi⟩,ih us (o+1) (by simpa using hl) (fun j v hj=>?_) fun i l hi=>?_⟩
    ·cases j with
     | zero=>exact hh 0 v (by simpa using hj)
     | succ j=>simp at hj
    ·have:=hh (j+1) v (by simpa using hj)
     rw [show o+1+j=o+(j+1) by omega];exact this
    ·obtain ⟨v,h1,h2⟩:=hr (i+1) l (by simpa using hi)
     exact ⟨v,by simpa using h1,h2⟩
 exact key G us 0 hl h.has hr
theorem getD_lt {l:List Int} {i:Nat} (h:i<l.length):l.getD i 0=l[i]:=by rw [List.getD_eq_getElem?_getD,List.getElem?_eq_getElem h];rfl
theorem hangs_calls (d:Flat) (v bv:Value) (by':List Int) (w:World) (h:FlatV w v d) (hok:d.ok) (hck:checkM d=0) (hb:Ints w bv by') (hbl:(by'.length:Int)=nBits d) (hbr:∀ x∈by',-1<=x/\x<d.procs.length) :
  Calls Tryz.prog 67 #[v,bv] w fun r w'=>∃ u,r=.returned u/\IntsL w' u (graphM d by')/\Ext w w':=by
 have HF:=Jh h
 obtain ⟨sv,pv,cv,rfl,hS,hP,hC⟩:=h
 have HX:=Jh (ext_alloc w (.cells [sv,pv,cv].toArray 26))
 have HB:=Jh (Blk.new w [sv,pv,cv].toArray 26)
 have hln:=hok.procs
 have hnb:=nBits_le hok hck
 obtain ⟨a0,b0,o0,c0,rfl,hc1,hc2,ha,hr⟩:=hP.open
 obtain ⟨ab,bb,ob,cb,rfl,hd1,hd2,hab,hbrw⟩:=hb.open
 obtain ⟨n,hn⟩:∃ n,d.procs.length=n:=⟨_,rfl⟩
 rw [hn] at hln hc1 ha hbr HB HX HF ⊢
 have HN:=Jh hn
 have HA:=Jh ha
 have HR:=Jh hr
 have HAB:=Jh hab
 have HBRW:=Jh hbrw
 have HBL:=Jh hbl
 have HBB:=Jh hbr
 have HC0:=Jh hck
 have HNB:=Jh hnb
 clear hS hP hC ha hr hb hab hbrw hbl hbr hck hnb hn
 go_enter Tryz.func67,Tryz.ntmps67
 go_upto_region 1 with fail
 have hs1:(w.alloc (.cells [sv,.slice a0 n c0,cv].toArray 26)).heap.size=w.heap.size+1:=by simp
 have y1:=HB.out.has 1 _ rfl
 rw [Nat.zero_add] at y1
 generalize w.alloc _=w1 at *
 go_wp2_with ((with_reducible show Jw (Op.makeSlice _ _ _));refine Hid.out ?_)
 refine Jh ?_
 have hx2:=ext_alloc w1 (.cells (madeCells (Value.slice none 0 0).cells (n*1)) 30)
 have hb2:=Blk.new w1 (madeCells (Value.slice none 0 0).cells (n*1)) 30
 rw [show madeCells (Value.slice none 0 0).cells (n*1)=(List.replicate n (Value.slice none 0 0)).toArray by rw [Nat.mul_one];exact madeCells_one _ _] at hx2 hb2
 refine wpList_mk rfl _ _ _ rfl (n:=n) rfl rfl Tryz.underlying75 info_ints (by omega) (by omega) ?_
 rw [show madeCells (Value.slice none 0 0).cells (n*1)=(List.replicate n (Value.slice none 0 0)).toArray by rw [Nat.mul_one];exact madeCells_one _ _]
 have hs2:(w1.alloc (.cells (List.replicate n (Value.slice none 0 0)).toArray 30)).heap.size=w1.heap.size+1:=by simp
 have y2:=Has.one1 y1 hx2
 generalize w1.alloc _=w2 at *
 obtain ⟨g,hg⟩:∃ g,w1.heap.size=g:=⟨_,rfl⟩
 have hgw:w.heap.size<=g:=by omega
 rw [hg] at hb2 hs2 ⊢
 have HGG:=Jh hg
 have HX2:=Jh hx2
 have HB2:=Jh hb2
 have hz2:g<w2.heap.size:=by omega
 clear hg hx2 hb2 y1 hs1 hs2
 go_wp2_with fail
 refine wp_loop (fun a wr=>∃ (k:Nat) (x0 x6 x7 x8 x9 x10 x11 x12 x13 x14 x15 x16 x20 x21 x22 x23 x24 x25 x26 x27 x28 x29 x30 x31 x32 x33 x34 x35 x36 x37 x38 x39 x40 x41 x42 x43 x44 x45 x46 x47 x48 x49 x50 x51 x52 x53 x54 x55 x56 x57 x58 x59 x60 x61 x62 x63 x64 x65 x66 x67 x68 x69 x70:Value),a=⟨#[x0,.slice ab by'.length cb,.pointer (some ⟨w.heap.size,0,Option.none⟩),undef,.slice Option.none 0 0,.slice (some ⟨g,0,Option.none⟩) n n,x6,x7,x8,x9,x10,x11,x12,x13,x14,x15,x16,.slice a0 n c0,.int .i64 n,.int .i64 (k:Int),x20,x21,x22,x23,x24,x25,x26,x27,x28,x29,x30,x31,x32,x33,x34,x35,x36,x37,x38,x39,x40,x41,x42,x43,x44,x45,x46,x47,x48,x49,x50,x51,x52,x53,x54,x55,x56,x57,x58,x59,x60,x61,x62,x63,x64,x65,x66,x67,x68,x69,x70],[]⟩ /\
  k<=n/\∃ us:List Value,us.length=n/\Hid (∀ i:Nat,k<=i->i<n->us[i]? = some (.slice none 0 0))/\Blk wr g us.toArray 30/\Hid (∀ (i:Nat) (l:List Int),i<k->(graphM d by')[i]? = some l->∃ u,us[i]? = some u/\IntRow g u l wr)/\Ext w1 wr) (fun a _=>n-(intOf (a.tmps.getD 19 undef)).toNat)
  ⟨0,_,_,_,_,_,_,_,_,_,_,_,_,_,_,_,_,_,_,_,_,_,_,_,_,_,_,_,_,_,_,_,_,_,_,_,_,_,_,_,_,_,_,_,_,_,_,_,_,_,_,_,_,_,_,_,_,_,_,_,_,_,_,_,rfl,Nat.zero_le _,List.replicate n (.slice none 0 0),by simp,Jh (fun i _ hi=>by rw [List.getElem?_replicate,if_pos hi]),HB2.out,Jh (fun i l hi=>by omega),HX2.out⟩ ?_
 clear HX2 HB2 y2 hz2
 rintro a wr ⟨k,x0,x6,x7,x8,x9,x10,x11,x12,x13,x14,x15,x16,x20,x21,x22,x23,x24,x25,x26,x27,x28,x29,x30,x31,x32,x33,x34,x35,x36,x37,x38,x39,x40,x41,x42,x43,x44,x45,x46,x47,x48,x49,x50,x51,x52,x53,x54,x55,x56,x57,x58,x59,x60,x61,x62,x63,x64,x65,x66,x67,x68,x69,x70,rfl,hk,us,hul,HUN,hbg,HUR,hxr⟩
 have HUL:=Jh hul
 have HBG:=Jh hbg
 have HXR:=Jh hxr
 have hgr:=hbg.lt
 clear hul hbg hxr
 by_cases hlt:k<n
 ·have hltd:k<d.procs.length:=by rw [HN.out];exact hlt
  have HBX:=Jh (HB.out.ext HXR.out)
  have HRD:=Jh (Reads_ok d _ wr ((HF.out.ext HX.out).ext HXR.out) hok HC0.out hltd)
  have hrange:=readsM_range hok HC0.out (p:=(k:Int)) (by simpa using hltd)
  have hlw:(readsM d (k:Int)).length<=(nBits d).toNat:=lt_length _ _ (numbersM_lt _ _:(readsM d (k:Int)).Pairwise (·<·)) hrange
  have hgk:=graphM_get d by' hltd
  rw [<-HBL.out] at hrange hlw
  have hbyl:=HNB.out.2
  rw [<-HBL.out] at hbyl
  rw [Int.toNat_natCast] at hlw
  generalize readsM d (k:Int)=l at *
  have HRG:=Jh hrange
  have HGK:=Jh hgk
  clear hrange hgk hltd
  go_upto_region 6 with (first | ((with_reducible show Jl 26);refine Jm 26 (HBX.out.has) agg_Flat rfl ?_) | (go_at_call 86;refine HRD.out.mono ?_;rintro r w6 ⟨u6,rfl,hr6,hx6⟩))
  obtain ⟨al,bl,ol,cl,rfl,hl1,hl2,hal,hlr⟩:=hr6.cells.open
  have HAL:=Jh hal
  have HLR:=Jh hlr
  have HB6:=Jh (HBG.out.ext hx6)
  have HX6:=Jh (HXR.out.trans hx6)
  have HR6:=Jh hr6
  have hz6:=hx6.size
  obtain ⟨M,hM⟩:∃ M,w6.heap.size=M:=⟨_,rfl⟩
  have hgM:g<M:=by omega
  have HM:=Jh hM
  have HUR6:Hid (∀ (i:Nat) (l:List Int),i<k->(graphM d by')[i]? = some l->∃ u,us[i]? = some u/\IntRow g u l w6):=Jh fun i l hi hg=>by
   obtain ⟨u,q1,q2⟩:=HUR.out i l hi hg
   exact ⟨u,q1,q2.ext hx6⟩
  have huk:us.set k (.slice none 0 0)=us:=by
   have:=HUN.out k (Nat.le_refl _) hlt
   obtain ⟨q1,q2⟩:=List.getElem?_eq_some_iff.1 this
   refine List.ext_getElem (by simp) fun i h1 h2=>?_
   rw [List.getElem_set]
   split
   ·rename_i e;subst e;exact q2.symm
   ·rfl
  have HB6':Hid (Blk w6 g (us.set k (.slice none 0 0)).toArray 30):=Jh (by rw [huk];exact HB6.out)
  clear hr6 hal hlr hx6 HBX HRD HBG HXR hM HUR huk hz6
  go_wp2_with fail
  refine wp_loop (fun a wi=>∃ (j:Nat) (y0 y7 y8 y9 y10 y11 y12 y13 y14 y15 y16 y20 y21 y22 y23 y24 y25 y26 y27 y31 y32 y33 y34 y35 y36 y37 y38 y39 y40 y41 y42 y43 y44 y45 y46 y47 y48 y49 y50 y51 y52 y53 y54 y55 y56 y57 y58 y59 y60 y61 y62 y63 y64 y65 y66 y67 y68 y69 y70:Value),a=⟨#[y0,.slice ab by'.length cb,.pointer (some ⟨w.heap.size,0,Option.none⟩),undef,.slice Option.none 0 0,.slice (some ⟨g,0,Option.none⟩) n n,.int .i64 (k:Int),y7,y8,y9,y10,y11,y12,y13,y14,y15,y16,.slice a0 n c0,.int .i64 n,.int .i64 (k:Int),y20,y21,y22,y23,y24,y25,y26,y27,.slice al l.length cl,.int .i64 l.length,.int .i64 (j:Int),y31,y32,y33,y34,y35,y36,y37,y38,y39,y40,y41,y42,y43,y44,y45,y46,y47,y48,y49,y50,y51,y52,y53,y54,y55,y56,y57,y58,y59,y60,y61,y62,y63,y64,y65,y66,y67,y68,y69,y70],[]⟩ /\
   j<=l.length/\∃ (u:Value) (gk:List Int),gk.length<=j/\Hid (hang1 by' (clks d) (l.drop j) gk=hang1 by' (clks d) l [])/\Blk wi g (us.set k u).toArray 30/\IntRow M u gk wi/\Fr (fun b=>b=g\/M<=b) w6 wi) (fun a _=>l.length-(intOf (a.tmps.getD 30 undef)).toNat)
   ⟨0,_,_,_,_,_,_,_,_,_,_,_,_,_,_,_,_,_,_,_,_,_,_,_,_,_,_,_,_,_,_,_,_,_,_,_,_,_,_,_,_,_,_,_,_,_,_,_,_,_,_,_,_,_,_,_,_,_,_,_,rfl,Nat.zero_le _,.slice none 0 0,[],Nat.le_refl _,Jh rfl,HB6'.out,IntRow.nil _ _,Fr.refl _ _⟩ ?_
  clear HB6'
  rintro a wi ⟨j,y0,y7,y8,y9,y10,y11,y12,y13,y14,y15,y16,y20,y21,y22,y23,y24,y25,y26,y27,y31,y32,y33,y34,y35,y36,y37,y38,y39,y40,y41,y42,y43,y44,y45,y46,y47,y48,y49,y50,y51,y52,y53,y54,y55,y56,y57,y58,y59,y60,y61,y62,y63,y64,y65,y66,y67,y68,y69,y70,rfl,hj,u,gk,hgl,HHG,hbi,hri,hfi⟩
  have HBI:=Jh hbi
  have HRI:=Jh hri
  have HFI:=Jh hfi
  have hxi:Ext w1 wi:=hfi.ext HX6.out fun x hx=>by rw [HGG.out];omega
  have HXI:=Jh hxi
  clear hbi hri hfi hxi
  by_cases hjl:j<l.length
  ·obtain rfl:=HAL.out (by omega)
   have hq:=(HLR.out.get (List.getElem?_eq_getElem hjl))
   have hbq:=HRG.out _ (List.getElem_mem hjl)
   have hhg:=HHG.out
   rw [List.drop_eq_getElem_cons hjl,hang1] at hhg
   try simp only at hhg
   have hblt:bl<M/\bl≠g:=by
    obtain ⟨g',c',he,hge,-⟩:=HR6.out.open1 (by omega)
    have hlt':bl<w6.heap.size:=by
     have:=hq 0 _ rfl
     exact World.block_lt_of_cell? w6 _ this
    rw [HM.out] at hlt'
    refine ⟨hlt',?_⟩
    injection he with e1
    injection e1 with e1
    injection e1 with e1
    omega
   have yq:=(HFI.out.has hq (by rintro (h | h)<;>omega)) 0 _ rfl
   simp only [Nat.mul_one,Nat.add_zero] at yq
   generalize l[j]=b at *
   obtain ⟨b',rfl⟩:∃ b':Nat,b=b':=⟨b.toNat,by omega⟩
   have hbo:b'<by'.length:=by omega
   rw [Int.toNat_natCast,getD_lt hbo] at hhg
   obtain rfl:=HAB.out (by omega)
   have hyb:=((HBRW.out.get (List.getElem?_eq_getElem hbo)).ext HX.out).ext HXI.out
   have yb:=hyb 0 _ rfl
   simp only [Nat.mul_one,Nat.add_zero] at yb
   have hqr:=HBB.out _ (List.getElem_mem hbo)
   generalize by'[b']=q at *
   have HHG2:=Jh hhg
   have HY1:=((HB.out.ext HXI.out).has 1 _ rfl)
   rw [Nat.zero_add] at HY1
   clear hhg hq hyb HHG
   by_cases hq0:0<=q
   ·obtain ⟨q',rfl⟩:∃ q':Nat,q=q':=⟨q.toNat,by omega⟩
    have hqn:q'<d.procs.length:=by rw [HN.out];omega
    obtain rfl:=HA.out (by omega)
    obtain ⟨s1,hhas,-⟩:=Procs.get HR.out hqn
    have yp:=((hhas.ext HX.out).ext HXI.out) 0 _ rfl
    have hclk:(clks d).getD q' false=d.procs[q'].clocked:=by unfold clks;rw [List.getD_eq_getElem?_getD,List.getElem?_map,List.getElem?_eq_getElem hqn];rfl
    have hhg:=HHG2.out
    rw [Int.toNat_natCast,hclk] at hhg
    simp only [Nat.add_zero] at yp
    generalize d.procs[q'].clocked=pb at *
    have hkl:k<(us.set k u).length:=by rw [List.length_set,HUL.out];exact hlt
    have yg:=HBI.out.cell k
    rw [List.getElem?_toArray,List.getElem?_set_self (by rw [HUL.out];exact hlt)] at yg
    have yf:=HBI.out.frozen k
    have HCN:=Jh (contains_calls gk u (q':Int) wi HRI.out.cells)
    obtain ⟨cc,hcc⟩:∃ cc,gk.contains (q':Int)=cc:=⟨_,rfl⟩
    rw [hcc] at HCN hhg
    have HHG3:=Jh hhg
    clear hhg hhas hclk hcc HHG2 hkl
    cases pb
    ·cases cc
     ·have hhg:hang1 by' (clks d) (l.drop (j+1)) (gk++[(q':Int)])=hang1 by' (clks d) l []:=by
       have:=HHG3.out
       rw [if_pos (by simp)] at this
       exact this
      have HHG4:=Jh hhg
      obtain ⟨au,cu,hu,-⟩:=HRI.out.open
      subst hu
      clear hhg HHG3
      have hx8:=ext_alloc wi (.cells [Value.int .i64 (q':Int)].toArray 3)
      have hb8:=Blk.new wi [Value.int .i64 (q':Int)].toArray 3
      have hr8:=HRI.out.ext hx8
      have hs8:(wi.alloc (.cells [Value.int .i64 (q':Int)].toArray 3)).heap.size=wi.heap.size+1:=by simp
      have hbg8:=HBI.out.ext hx8
      have HGB:Hid (gk.length+1<=1099511627776):=Jh (by omega)
      have hMi:M<=wi.heap.size:=by have:=HFI.out.size;have:=HM.out;omega
      go_wp2_with (first | (go_at_call 65;refine HCN.out.mono ?_;rintro r w7 ⟨rfl,rfl⟩) | ((with_reducible show Jw (Op.buildSlice _ _ _));refine wpList_bs1 rfl _ _ rfl appInt rfl (cs:=[Value.int .i64 (q':Int)]) rfl rfl (by decide) ?_) | ((with_reducible show Jw (Op.call { callee:=.builtin .append,args:=_,argTypes:=_ }));refine Hid.out ?_))
      refine Jh ?_
      refine wpList_appI (m:=1) (news:=[(q':Int)]) rfl _ _ rfl rfl hr8 rfl (fun _=>Nat.lt_of_lt_of_le Nat.zero_lt_one (Nat.le_refl 1)) rfl (news_has hb8.has) HGB.out (by omega) ?_
      intro g9 cap9 w9 hrow9 hg9
      have hbg9:Blk w9 g (us.set k (.slice au gk.length cu)).toArray 30:=(hg9.block _ hbg8.lt (fun e=>hr8.ne hbg8 (by decide) e.symm rfl)).trans hbg8
      have hf9:=(HFI.out.trans (Fr.of_ext hx8)).trans (Fr.of_gb (C:=fun b=>b=g\/M<=b) hg9 fun q hq=>Or.inr (hr8.at hq).1)
      have yf9:=hbg9.frozen k
      have yg9:=hbg9.cell k
      rw [List.getElem?_toArray,List.getElem?_set_self (by rw [HUL.out];exact hlt)] at yg9
      have hb10:=hbg9.set k (.slice (some ⟨g9,0,none⟩) (gk.length+1) cap9)
      rw [Ja,List.set_set] at hb10
      have hgs:=gb_set w9 g k (.slice (some ⟨g9,0,none⟩) (gk.length+1) cap9)
      have hr10:=hrow9.grown hgs (fun q hq e=>hrow9.ne hbg9 (by decide) hq (by cases e;rfl))
      have hf10:=hf9.trans (Fr.of_gb (C:=fun b=>b=g\/M<=b) hgs fun q hq=>Or.inl (by cases hq;rfl))
      have HR10:=Jh hr10
      have HF10:=Jh hf10
      have HB10:=Jh hb10
      clear hr10 hf10 hb10 hgs hf9 hrow9 hg9 hb8 hr8 hs8 hbg8 hx8
      go_wp2_with fail
      first | exact ⟨⟨j+1,_,_,_,_,_,_,_,_,_,_,_,_,_,_,_,_,_,_,_,_,_,_,_,_,_,_,_,_,_,_,_,_,_,_,_,_,_,_,_,_,_,_,_,_,_,_,_,_,_,_,_,_,_,_,_,_,_,_,_,rfl,by omega,_,_,by simp;omega,HHG4,HB10.out,HR10.out,HF10.out⟩,by simp [intOf];omega⟩ | exact ⟨⟨j+1,by omega,by omega,_,_,by simp;omega,HHG4,HB10.out,HR10.out,HF10.out⟩,by simp [intOf];omega⟩
     ·have hhg:hang1 by' (clks d) (l.drop (j+1)) gk=hang1 by' (clks d) l []:=by
       have:=HHG3.out
       rw [if_neg (by simp)] at this
       exact this
      have HHG4:=Jh hhg
      obtain ⟨au,cu,hu,-⟩:=HRI.out.open
      subst hu
      clear hhg HHG3
      go_wp2_with (first | (go_at_call 65;refine HCN.out.mono ?_;rintro r w7 ⟨rfl,rfl⟩))
      first | exact ⟨⟨j+1,_,_,_,_,_,_,_,_,_,_,_,_,_,_,_,_,_,_,_,_,_,_,_,_,_,_,_,_,_,_,_,_,_,_,_,_,_,_,_,_,_,_,_,_,_,_,_,_,_,_,_,_,_,_,_,_,_,_,_,rfl,by omega,_,gk,by omega,HHG4,HBI.out,HRI.out,HFI.out⟩,by simp [intOf];omega⟩ | exact ⟨⟨j+1,by omega,by omega,_,gk,by omega,HHG4,HBI.out,HRI.out,HFI.out⟩,by simp [intOf];omega⟩
    ·have hhg:hang1 by' (clks d) (l.drop (j+1)) gk=hang1 by' (clks d) l []:=by
      have:=HHG3.out
      rw [if_neg (by simp)] at this
      exact this
     have HHG4:=Jh hhg
     clear hhg HHG3
     go_wp2_with fail
     first | exact ⟨⟨j+1,by omega,by omega,_,gk,by omega,HHG4,HBI.out,HRI.out,HFI.out⟩,by simp [intOf];omega⟩ | exact ⟨⟨j+1,_,_,_,_,_,_,_,_,_,_,_,_,_,_,_,_,_,_,_,_,_,_,_,_,_,_,_,_,_,_,_,_,_,_,_,_,_,_,_,_,_,_,_,_,_,_,_,_,_,_,_,_,_,_,_,_,_,_,_,rfl,by omega,_,gk,by omega,HHG4,HBI.out,HRI.out,HFI.out⟩,by simp [intOf];omega⟩
   ·have hhg:hang1 by' (clks d) (l.drop (j+1)) gk=hang1 by' (clks d) l []:=by
     have:=HHG2.out
     rw [if_neg (by simp [hq0])] at this
     exact this
    have HHG4:=Jh hhg
    clear hhg HHG2
    go_wp2_with fail
    first | exact ⟨⟨j+1,by omega,by omega,_,gk,by omega,HHG4,HBI.out,HRI.out,HFI.out⟩,by simp [intOf];omega⟩ | exact ⟨⟨j+1,_,_,_,_,_,_,_,_,_,_,_,_,_,_,_,_,_,_,_,_,_,_,_,_,_,_,_,_,_,_,_,_,_,_,_,_,_,_,_,_,_,_,_,_,_,_,_,_,_,_,_,_,_,_,_,_,_,_,_,rfl,by omega,_,gk,by omega,HHG4,HBI.out,HRI.out,HFI.out⟩,by simp [intOf];omega⟩
  ·obtain rfl:j=l.length:=by omega
   have hhg:=HHG.out
   rw [List.drop_length,hang1] at hhg
   have HHG4:=Jh hhg
   clear hhg HHG
   go_wp2_with fail
   have hrows:∀ (i:Nat) (l':List Int),i<k+1->(graphM d by')[i]? = some l'->∃ u',(us.set k u)[i]? = some u'/\IntRow g u' l' wi:=by
    intro i l' hi hg'
    by_cases e:k=i
    ·subst e
     rw [HGK.out] at hg'
     injection hg' with hg'
     refine ⟨u,List.getElem?_set_self (by rw [HUL.out];exact hlt),?_⟩
     rw [<-hg',<-HHG4.out]
     exact HRI.out.less (by omega)
    ·obtain ⟨u',q1,q2⟩:=HUR6.out i l' (by omega) hg'
     refine ⟨u',by rw [List.getElem?_set_ne e];exact q1,?_⟩
     refine q2.keep fun b hb o ho=>?_
     have hlt':=(Array.getElem?_eq_some_iff.1 ho).1
     refine (HFI.out.block b hlt' ?_).trans ho
     rintro (h | h)
     ·exact q2.ne HB6.out (by decide) hb h
     ·rw [HM.out] at hlt';omega
   have HROWS:=Jh hrows
   have HUN2:Hid (∀ i:Nat,k+1<=i->i<n->(us.set k u)[i]? = some (.slice none 0 0)):=Jh fun i h1 h2=>by
    rw [List.getElem?_set_ne (by omega)]
    exact HUN.out i (by omega) h2
   clear hrows
   exact ⟨⟨k+1,_,_,_,_,_,_,_,_,_,_,_,_,_,_,_,_,_,_,_,_,_,_,_,_,_,_,_,_,_,_,_,_,_,_,_,_,_,_,_,_,_,_,_,_,_,_,_,_,_,_,_,_,_,_,_,_,_,_,_,_,_,_,_,rfl,by omega,us.set k u,by rw [List.length_set];exact HUL.out,HUN2,HBI.out,HROWS,HXI.out⟩,by simp [intOf];omega⟩
 ·obtain rfl:k=n:=by omega
  go_wp2_with fail
  go_ret
  have hgl:=graphM_length d by'
  rw [HN.out] at hgl
  have:=intsL_of HBG.out (G:=graphM d by') (by rw [HUL.out,hgl]) (by rw [hgl];omega) (fun i l hi=>by
   obtain ⟨u,q1,q2⟩:=HUR.out i l (by rw [<-hgl];exact (List.getElem?_eq_some_iff.1 hi).1) hi
   exact ⟨u,q1,q2.cells⟩)
  rw [hgl] at this
  exact ⟨_,rfl,this,HX.out.trans HXR.out⟩
end Go.Proofs.YtoaamjgfhppppaaGreat
