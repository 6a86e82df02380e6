/- Laws and walks that a claim of this seat leans on: Drive, Next, Order, LookM. -/
import Derived.Test.YtoaamjgfhppppaaGreatY14
import Derived.Test.YtoaamjgfhppppaaGreatY06
import Derived.WalkMore
import Derived.Deep.LoopGhost
import Derived.Test.YtoaamjgfhppppaaGreatY13
import Derived.Test.YtoaamjgfhppppaaGreatY00
set_option maxRecDepth 100000
set_option maxHeartbeats 8000000
set_option linter.all false
namespace Go.Proofs.YtoaamjgfhppppaaGreat
open Go.RowKit
/-! ### plain: the bits that processes write and read are the design's -/
def SpanD (ls:List Signal) (s:Span):Prop:=0<=s.sig/\s.sig<ls.length/\0<=s.lo/\s.hi<sigW ls s.sig
theorem slice_span {ls:List Signal} {sig hi lo:Int} (h:slice ls sig hi lo=true):SpanD ls ⟨sig,hi,lo⟩:=by
 unfold slice at h
 simp only [Bool.and_eq_true,decide_eq_true_eq] at h
 unfold SpanD
 simp only
 omega
theorem span_bits (ls:List Signal) {s:Span} (h:SpanD ls s) {j:Int} (h1:s.lo<=j) (h2:j<=s.hi) :
  s.sig.toNat<ls.length/\sumW ls s.sig.toNat<=(offsM ls ls.length).getD s.sig.toNat 0+j/\(offsM ls ls.length).getD s.sig.toNat 0+j<sumW ls (s.sig.toNat+1):=by
 obtain ⟨a,b,c,e⟩:=h
 have hlt:s.sig.toNat<ls.length:=by omega
 rw [offsM_getD _ _ _ (by omega),sumW_succ ls _ hlt]
 unfold sigW at e
 rw [List.getElem?_eq_getElem hlt] at e
 simp only at e
 omega
theorem ProcD.spansW {d:Flat} {l:List T} (h:ProcD d l):∀ s∈spansW l,SpanD d.signals s:=by
 intro s hs
 unfold Go.Proofs.YtoaamjgfhppppaaGreat.spansW wS at hs
 obtain ⟨t,ht,rfl⟩:=List.mem_map.1 hs
 obtain ⟨ht,ho⟩:=List.mem_filter.1 ht
 exact slice_span (((StD_iff _ _).1 (h.each t (List.mem_of_mem_take ht))).1 (by simpa using ho))
theorem partsE_span (ls:List Signal) (e:E):shape ls e=true->∀ s∈partsE ls e,SpanD ls s:=by
 induction e using E.ind with
 | h e ih =>
  intro he s hs
  rw [shape_eq,Bool.and_eq_true,List.all_eq_true] at he
  rw [partsE_eq,List.mem_append] at hs
  rcases hs with hs | hs
  ·unfold spans0 at hs
   split at hs
   ·rename_i h2
    have h0:=he.1
    rw [h2] at h0
    simp [shape0] at h0
    rw [List.mem_singleton.1 hs]
    exact slice_span h0.1.2
   ·split at hs
    ·rename_i h3
     have h0:=he.1
     rw [h3] at h0
     simp [shape0] at h0
     rw [List.mem_singleton.1 hs]
     unfold SpanD
     simp only
     omega
    ·cases hs
  ·obtain ⟨m,hm,hs⟩:=List.mem_flatten.1 hs
   obtain ⟨y,hy,rfl⟩:=List.mem_map.1 hm
   exact ih y hy (he.2 y hy) s hs
theorem ProcD.spansR {d:Flat} {l:List T} (h:ProcD d l):∀ s∈spansR d.signals l,SpanD d.signals s:=by
 intro s hs
 unfold Go.Proofs.YtoaamjgfhppppaaGreat.spansR rS at hs
 obtain ⟨m,hm,hs⟩:=List.mem_flatten.1 hs
 obtain ⟨t,ht,rfl⟩:=List.mem_map.1 hm
 obtain ⟨m,hm,hs⟩:=List.mem_flatten.1 hs
 obtain ⟨e,he,rfl⟩:=List.mem_map.1 hm
 exact partsE_span _ e (((StD_iff _ _).1 (h.each t (List.mem_of_mem_take ht))).2.2.1 e he) s hs
def nBits (d:Flat):Int:=sumW d.signals d.signals.length
theorem numbersM_range {d:Flat} {l:List T} (h:ProcD d l) (xs:List Span) (hx:∀ s∈xs,SpanD d.signals s):∀ b∈numbersM (offsD d) xs,0<=b/\b<nBits d:=by
 intro b hb
 obtain ⟨s,hs,j,h1,h2,rfl⟩:=(mem_numbersM _ _ _).1 hb
 obtain ⟨q1,q2,q3⟩:=span_bits d.signals (hx s hs) h1 h2
 have:=(sumW_le d.signals h.ow s.sig.toNat (by omega)).1
 have:=sumW_mono d.signals h.ow (s.sig.toNat+1) d.signals.length (by omega) (Nat.le_refl _)
 unfold nBits offsD
 omega
theorem writesM_range {d:Flat} (hok:d.ok) (hc:checkM d=0) {p:Int} (hp:p.toNat<d.procs.length):∀ b∈writesM d p,0<=b/\b<nBits d:=by
 have hD:=procD_of hok hc p.toNat hp
 unfold writesM
 rw [procL_get hp]
 exact numbersM_range hD _ hD.spansW
theorem readsM_range {d:Flat} (hok:d.ok) (hc:checkM d=0) {p:Int} (hp:p.toNat<d.procs.length):∀ b∈readsM d p,0<=b/\b<nBits d:=by
 have hD:=procD_of hok hc p.toNat hp
 unfold readsM
 rw [procL_get hp]
 exact numbersM_range hD _ hD.spansR
theorem nBits_le {d:Flat} (hok:d.ok) (hc:checkM d=0):0<=nBits d/\nBits d<=67108864:=by
 have:=sumW_le d.signals (checkM_w hc) d.signals.length (Nat.le_refl _)
 have:=hok.signals
 unfold nBits
 omega
theorem lt_length (l:List Int) (n:Int) (hl:l.Pairwise (·<·)) (h:∀ b∈l,0<=b/\b<n):l.length<=n.toNat:=by
 have h1:(l.map Int.toNat).Nodup:=by
  rw [List.nodup_iff_pairwise_ne,List.pairwise_map]
  refine hl.imp_of_mem fun {a b} ha hb hab=>?_
  have:=h a ha;have:=h b hb
  omega
 have:=nodup_le (l.map Int.toNat) (List.range n.toNat) h1 fun x hx=>by
  obtain ⟨b,hb,rfl⟩:=List.mem_map.1 hx
  have:=h b hb
  rw [List.mem_range];omega
 simpa using this
def wsM (d:Flat):List (List Int):=(List.range d.procs.length).map fun (p:Nat)=>writesM d (p:Int)
theorem wsM_length (d:Flat):(wsM d).length=d.procs.length:=by simp [wsM]
theorem wsM_drop (d:Flat) (k:Nat) (hk:k<d.procs.length):(wsM d).drop k=writesM d (k:Int)::(wsM d).drop (k+1):=by
 rw [List.drop_eq_getElem_cons (by rw [wsM_length];exact hk)]
 simp [wsM]
def drvD (d:Flat):Int × List Int:=if checkM d=0 then (match drvM (nBits d).toNat (wsM d) with | none=>(120,[]) | some o=>(0,o)) else (1,[])
def drvEnd:Option (List Int)->Int × List Int
 | none=>(120,[])
 | some o=>(0,o)
theorem drvD_eq {d:Flat} (h:checkM d=0):drvD d=drvEnd (drvM (nBits d).toNat (wsM d)):=by
 unfold drvD drvEnd;rw [if_pos h]
theorem IntRow.ofBlk {N g:Nat} {l:List Int} {w:World} (h:Blk w g (l.map (Value.int .i64)).toArray 3) (hN:N<=g) (hm:l.length<=9223372036854775807):IntRow N (.slice (some ⟨g,0,none⟩) l.length l.length) l w :=
 ⟨by simp,.inr ⟨g,l.length,_,rfl,hN,h,Nat.le_refl _,by simpa [maxLen] using hm,by simp,by rw [Nat.mul_one];exact List.take_of_length_le (by simp)⟩⟩
theorem blk_setI {w:World} {g:Nat} {l:List Int} (h:Blk w g (l.map (Value.int .i64)).toArray 3) (j:Nat) (x:Int):Blk (w.setCell ⟨g,j,none⟩ (.int .i64 x)) g ((l.set j x).map (Value.int .i64)).toArray 3:=by
 have:=h.set j (.int .i64 x)
 rw [Ja] at this
 rw [List.map_set]
 exact this
theorem Bits_ok (d:Flat) (v:Value) (w:World) (h:FlatV w v d) (hok:d.ok) (hc:checkM d=0) :
  Calls Tryz.prog 13 #[v] w fun r w'=>∃ u,r=.returned (.tuple #[u,.int .i64 0])/\IntRow w.heap.size u (offsM d.signals d.signals.length) w'/\Ext w w':=by
 have:=Bits_calls d v w h hok
 rw [if_pos hc,if_pos hc] at this
 exact this
theorem toldOk_of {d:Flat} (hc:checkM d=0) {k:Nat} (hk:k<d.procs.length):toldOk d (k:Int)=true:=by
 unfold toldOk;simp [hc];omega
theorem Writes_ok (d:Flat) (v:Value) (w:World) (h:FlatV w v d) (hok:d.ok) (hc:checkM d=0) {k:Nat} (hk:k<d.procs.length) :
  Calls Tryz.prog 26 #[v,.int .i64 k] w fun r w'=>∃ u,r=.returned (.tuple #[u,.int .i64 0])/\IntRow w.heap.size u (writesM d k) w'/\Ext w w':=by
 have:=Writes_calls d v w h hok (k:Int) (by have:=hok.procs;omega)
 rw [if_pos (toldOk_of hc hk),if_pos (toldOk_of hc hk)] at this
 exact this
theorem Reads_ok (d:Flat) (v:Value) (w:World) (h:FlatV w v d) (hok:d.ok) (hc:checkM d=0) {k:Nat} (hk:k<d.procs.length) :
  Calls Tryz.prog 86 #[v,.int .i64 k] w fun r w'=>∃ u,r=.returned (.tuple #[u,.int .i64 0])/\IntRow w.heap.size u (readsM d k) w'/\Ext w w':=by
 have:=Reads_calls d v w h hok (k:Int) (by have:=hok.procs;omega)
 rw [if_pos (toldOk_of hc hk),if_pos (toldOk_of hc hk)] at this
 exact this
theorem Always_ok (d:Flat) (v:Value) (w:World) (h:FlatV w v d) (hok:d.ok) (hc:checkM d=0) {k:Nat} (hk:k<d.procs.length) :
  Calls Tryz.prog 66 #[v,.int .i64 k] w fun r w'=>∃ u,r=.returned (.tuple #[u,.int .i64 0])/\IntRow w.heap.size u (alwaysM d k) w'/\Ext w w':=by
 have:=Always_calls d v w h hok (k:Int) (by have:=hok.procs;omega)
 rw [if_pos (toldOk_of hc hk),if_pos (toldOk_of hc hk)] at this
 exact this
theorem Drivers_calls (d:Flat) (v:Value) (w:World) (h:FlatV w v d) (hok:d.ok) :
  Calls Tryz.prog 38 #[v] w fun r w'=>∃ u,r=.returned (.tuple #[u,.int .i64 (drvD d).1])/\IntRow w.heap.size u (drvD d).2 w'/\Ext w w':=by
 have HF:=Jh h
 obtain ⟨sv,pv,cv,rfl,hS,hP,hC⟩:=h
 have HX:=Jh (ext_alloc w (.cells [sv,pv,cv].toArray 26))
 have HB:=Jh (Blk.new w [sv,pv,cv].toArray 26)
 have HCK:=Jh (Check_calls d _ _ (HF.out.ext HX.out) hok)
 have hln:=hok.procs
 have hlns:=hok.signals
 obtain ⟨a0,b0,o0,c0,rfl,hc1,hc2,ha,hr⟩:=hP.open
 clear hS hP hC ha hr
 obtain ⟨ep,hep⟩:∃ ep,drvD d=ep:=⟨_,rfl⟩
 rw [hep]
 have HEP:=Jh hep
 clear hep
 go_enter Tryz.func38,Tryz.ntmps38
 go_upto_region 1 with fail
 have hs1:(w.alloc (.cells [sv,.slice a0 d.procs.length c0,cv].toArray 26)).heap.size=w.heap.size+1:=by simp
 generalize w.alloc _=w1 at *
 by_cases hck:checkM d=0
 ·have hnb:=nBits_le hok hck
  have hep:=HEP.out
  rw [drvD_eq hck] at hep
  obtain ⟨nb,hnbe⟩:∃ nb:Nat,nBits d=nb:=⟨(nBits d).toNat,by omega⟩
  rw [hnbe,Int.toNat_natCast] at hep
  rw [hnbe] at hnb
  have HNB:=Jh hnbe
  have HEN:=Jh hep
  have HC0:=Jh hck
  have HBT:=Jh (fun W (hx:Ext w1 W)=>Bits_ok d _ W ((HF.out.ext HX.out).ext hx) hok hck)
  rw [hck] at HCK
  clear hck hnbe hep
  go_upto_region 4 with (first | ((with_reducible show Jl 26);refine Jm 26 (HB.out.has) agg_Flat rfl ?_) | (go_at_call 41;refine HCK.out.mono ?_;rintro r w2 ⟨rfl,hx2⟩;have HB2:=Jh (HB.out.ext hx2)) | ((with_reducible show Jl 26);refine Jm 26 (HB2.out.has) agg_Flat rfl ?_) | (go_at_call 13;refine (HBT.out _ hx2).mono ?_;rintro r w3 ⟨u,rfl,hr3,hx3⟩))
  obtain ⟨gb,cb,hu,hgb,hgc⟩:=hr3.open1 (by rw [offsM_length];omega)
  rw [offsM_length] at hu
  subst hu
  have y0:=hgc d.signals.length (nBits d) (offsM_last _ _)
  rw [HNB.out] at y0
  have hx4:=ext_alloc w3 (.cells [Value.int .i64 (-1)].toArray 3)
  have hb4:=Blk.new w3 [Value.int .i64 (-1)].toArray 3
  have y4:=Has.one1 y0 hx4
  have hX4:=(hx2.trans hx3).trans hx4
  have hs4:=hX4.size
  clear hgc hgb hr3 y0
  go_upto_region 5 with (first | ((with_reducible show Jw (Op.buildSlice _ _ _));refine wpList_bs1 rfl _ _ rfl appInt rfl (cs:=[Value.int .i64 (-1)]) rfl rfl (by decide) ?_) | (go_at_call 63;refine (repeat_calls (-1) nb (by omega) _ _ hb4).mono ?_;rintro r w5 ⟨g,rfl,hg5,hb5,hx5⟩))
  have hX5:=hX4.trans hx5
  have hg1:w1.heap.size<=g:=by omega
  have hz5:=hX5.size
  have hb5':Blk w5 g ((List.replicate nb (-1:Int)).map (Value.int .i64)).toArray 3:=by rw [List.map_replicate];exact hb5
  have HBR:=Jh hb5'
  have HXR:=Jh hX5
  have y1:=(HB.out.ext hX5).has 1 _ rfl
  rw [Nat.zero_add] at y1
  clear hx4 hb4 y4 hX4 hs4 hx5 hg5 hx3 HB2 hx2 hb5 hb5' hX5
  generalize w3.alloc _=w4 at *
  go_wp2_with fail
  refine wp_loop (fun a wr=>∃ (k:Nat) (x0 x4 x5 x7 x8 x9 x10 x11 x12 x13 x14 x15 x16 x17 x18 x19 x20 x21 x22 x23 x24 x25 x26 x27 x28 x32 x33 x34 x35 x36 x37 x38 x39 x40 x41 x42 x43 x44 x45 x46 x47 x48 x49 x50 x51 x52 x53 x54 x55 x56 x57:Value),a=⟨#[x0,.pointer (some ⟨w.heap.size,0,Option.none⟩),.slice Option.none 0 0,.int .i64 0,x4,x5,.slice (some ⟨g,0,Option.none⟩) nb nb,x7,x8,x9,x10,x11,x12,x13,x14,x15,x16,x17,x18,x19,x20,x21,x22,x23,x24,x25,x26,x27,x28,.slice a0 d.procs.length c0,.int .i64 d.procs.length,.int .i64 (k:Int),x32,x33,x34,x35,x36,x37,x38,x39,x40,x41,x42,x43,x44,x45,x46,x47,x48,x49,x50,x51,x52,x53,x54,x55,x56,x57],[]⟩ /\
   k<=d.procs.length/\∃ out:List Int,out.length=nb/\Hid (drvEnd (drvs k ((wsM d).drop k) out)=ep)/\Blk wr g (out.map (Value.int .i64)).toArray 3/\Ext w1 wr) (fun a _=>d.procs.length-(intOf (a.tmps.getD 31 undef)).toNat)
   ⟨0,_,_,_,_,_,_,_,_,_,_,_,_,_,_,_,_,_,_,_,_,_,_,_,_,_,_,_,_,_,_,_,_,_,_,_,_,_,_,_,_,_,_,_,_,_,_,_,_,_,_,_,rfl,Nat.zero_le _,List.replicate nb (-1),by simp,HEN,HBR.out,HXR.out⟩ ?_
  clear HBR HXR y1 HEN HEP
  rintro a wr ⟨k,x0,x4,x5,x7,x8,x9,x10,x11,x12,x13,x14,x15,x16,x17,x18,x19,x20,x21,x22,x23,x24,x25,x26,x27,x28,x32,x33,x34,x35,x36,x37,x38,x39,x40,x41,x42,x43,x44,x45,x46,x47,x48,x49,x50,x51,x52,x53,x54,x55,x56,x57,rfl,hk,out,hol,HEN,hbr,hxr⟩
  have HOL:=Jh hol
  have HBR:=Jh hbr
  have HXR:=Jh hxr
  clear hol hbr hxr
  by_cases hlt:k<d.procs.length
  ·have HBX:=Jh (HB.out.ext HXR.out)
   have HWR:=Jh (Writes_ok d _ wr ((HF.out.ext HX.out).ext HXR.out) hok HC0.out hlt)
   have hws:=wsM_drop d k hlt
   have hrange:=writesM_range hok HC0.out (p:=(k:Int)) (by simpa using hlt)
   have hlw:=lt_length _ _ (numbersM_lt _ _:(writesM d (k:Int)).Pairwise (·<·)) hrange
   have hen:=HEN.out
   rw [hws,drvs] at hen
   rw [HNB.out] at hrange hlw
   generalize writesM d (k:Int)=l at *
   have HRG:=Jh hrange
   have HEN2:=Jh hen
   clear hws hrange hen HEN
   go_upto_region 9 with (first | ((with_reducible show Jl 26);refine Jm 26 (HBX.out.has) agg_Flat rfl ?_) | (go_at_call 26;refine HWR.out.mono ?_;rintro r w6 ⟨u6,rfl,hr6,hx6⟩))
   obtain ⟨al,bl,ol,cl,rfl,hl1,hl2,hal,hlr⟩:=hr6.cells.open
   have HAL:=Jh hal
   have HLR:=Jh hlr
   have HB6:=Jh (HBR.out.ext hx6)
   have HX6:=Jh (HXR.out.trans hx6)
   have HR6:=Jh hr6
   have hgw:=HBR.out.lt
   clear hr6 hal hlr hx6 HBX HWR HBR HXR
   go_wp2_with fail
   refine wp_loop (fun a wi=>∃ (j:Nat) (y0 y4 y5 y8 y9 y10 y11 y12 y13 y14 y15 y16 y17 y18 y19 y20 y21 y22 y23 y24 y25 y26 y27 y28 y32 y33 y34 y35 y36 y37 y38 y39 y43 y44 y45 y46 y47 y48 y49 y50 y51 y52 y53 y54 y55 y56 y57:Value),a=⟨#[y0,.pointer (some ⟨w.heap.size,0,Option.none⟩),.slice Option.none 0 0,.int .i64 0,y4,y5,.slice (some ⟨g,0,Option.none⟩) nb nb,.int .i64 (k:Int),y8,y9,y10,y11,y12,y13,y14,y15,y16,y17,y18,y19,y20,y21,y22,y23,y24,y25,y26,y27,y28,.slice a0 d.procs.length c0,.int .i64 d.procs.length,.int .i64 (k:Int),y32,y33,y34,y35,y36,y37,y38,y39,.slice al l.length cl,.int .i64 l.length,.int .i64 (j:Int),y43,y44,y45,y46,y47,y48,y49,y50,y51,y52,y53,y54,y55,y56,y57],[]⟩ /\
    j<=l.length/\∃ out:List Int,out.length=nb/\Hid (drvEnd (match drv1 (k:Int) (l.drop j) out with | none=>none | some o=>drvs (k+1) ((wsM d).drop (k+1)) o)=ep)/\Blk wi g (out.map (Value.int .i64)).toArray 3/\w6.grownBy wi (some g)) (fun a _=>l.length-(intOf (a.tmps.getD 42 undef)).toNat)
    ⟨0,_,_,_,_,_,_,_,_,_,_,_,_,_,_,_,_,_,_,_,_,_,_,_,_,_,_,_,_,_,_,_,_,_,_,_,_,_,_,_,_,_,_,_,_,_,_,_,rfl,Nat.zero_le _,out,HOL.out,HEN2,HB6.out,gb_refl _ _⟩ ?_
   clear HEN2 HB6 HOL
   rintro a wi ⟨j,y0,y4,y5,y8,y9,y10,y11,y12,y13,y14,y15,y16,y17,y18,y19,y20,y21,y22,y23,y24,y25,y26,y27,y28,y32,y33,y34,y35,y36,y37,y38,y39,y43,y44,y45,y46,y47,y48,y49,y50,y51,y52,y53,y54,y55,y56,y57,rfl,hj,out',hol,HEN,hbr,hgi⟩
   have HOL:=Jh hol
   have HBR:=Jh hbr
   have HGI:=Jh hgi
   have hx8:Ext w1 wi:=Ext.grown HX6.out hgi hg1
   have HX8:=Jh hx8
   clear hol hbr hgi hx8
   by_cases hjl:j<l.length
   ·obtain rfl:=HAL.out (by omega)
    have hq:=(HLR.out.get (List.getElem?_eq_getElem hjl))
    have hbq:=HRG.out _ (List.getElem_mem hjl)
    have hdr:=HEN.out
    rw [List.drop_eq_getElem_cons hjl,drv1] at hdr
    have hne:bl≠g:=by
     obtain ⟨g',c',he,hge,-⟩:=HR6.out.open1 (by omega)
     injection he with e1
     injection e1 with e1
     injection e1 with e1
     omega
    have yq:=(Has.grown hq HGI.out hne) 0 _ rfl
    simp only [Nat.mul_one,Nat.add_zero] at yq
    generalize l[j]=b at *
    obtain ⟨b',rfl⟩:∃ b':Nat,b=b':=⟨b.toNat,by omega⟩
    have hbo:b'<out'.length:=by rw [HOL.out];omega
    rw [Int.toNat_natCast] at hdr
    rw [List.getD_eq_getElem?_getD,List.getElem?_eq_getElem hbo] at hdr
    simp only [Option.getD_some] at hdr
    have yo:=HBR.out.cell b'
    rw [List.getElem?_toArray,List.getElem?_map,List.getElem?_eq_getElem hbo] at yo
    simp only [Option.map_some] at yo
    have yf:=HBR.out.frozen b'
    generalize out'[b']=ob at *
    by_cases hob:0<=ob
    ·rw [if_pos hob] at hdr
     simp only [drvEnd] at hdr
     have HEN2:=Jh hdr
     clear hdr HEN hq hbo
     go_wp2_with fail
     refine bodyPost_ret (v:=.tuple #[.slice Option.none 0 0,.int .i64 120]) (by simp [results,Tryz.results38,go_sem]) rfl ⟨.slice Option.none 0 0,by rw [<-HEN2.out],by rw [<-HEN2.out];exact IntRow.nil _ _,HX.out.trans HX8.out⟩
    ·rw [if_neg hob] at hdr
     have HEN2:=Jh hdr
     have hb9:=blk_setI HBR.out b' (k:Int)
     have hg9:=gb_trans HGI.out (gb_set wi g b' (.int .i64 (k:Int)))
     have HB9:=Jh hb9
     have HG9:=Jh hg9
     clear hdr HEN hq hbo hb9 hg9
     go_wp2_with fail
     exact ⟨⟨j+1,by omega,by omega,out'.set b' (k:Int),by rw [List.length_set];exact HOL.out,HEN2,HB9.out,HG9.out⟩,by simp [intOf];omega⟩
   ·obtain rfl:j=l.length:=by omega
    have hdr:=HEN.out
    rw [List.drop_length,drv1] at hdr
    have HEN2:=Jh hdr
    clear hdr HEN
    go_wp2_with fail
    exact ⟨⟨k+1,by omega,by omega,out',HOL.out,HEN2,HBR.out,HX8.out⟩,by simp [intOf];omega⟩
  ·obtain rfl:k=d.procs.length:=by omega
   have hen:=HEN.out
   rw [List.drop_of_length_le (by rw [wsM_length];exact Nat.le_refl _),drvs] at hen
   simp only [drvEnd] at hen
   have HEN2:=Jh hen
   clear hen HEN
   go_wp2_with fail
   have e2:=HEN2.out
   have hrow:=IntRow.ofBlk (N:=w.heap.size) HBR.out (by omega) (by rw [HOL.out];omega)
   rw [HOL.out] at hrow
   refine bodyPost_ret (v:=.tuple #[.slice (some ⟨g,0,Option.none⟩) nb nb,.int .i64 0]) (by simp [results,Tryz.results38,go_sem]) rfl ⟨_,by rw [<-e2],by rw [<-e2];exact hrow,HX.out.trans HXR.out⟩
 ·have HC0:=Jh hck
  have hep:=HEP.out
  unfold drvD at hep
  rw [if_neg hck] at hep
  subst hep
  have hbq:(checkM d==0)=false:=by rw [beq_eq_false_iff_ne];exact hck
  clear hck
  go_wp2_with (first | ((with_reducible show Jl 26);refine Jm 26 (HB.out.has) agg_Flat rfl ?_) | (go_at_call 41;refine HCK.out.mono ?_;rintro r w2 ⟨rfl,hx2⟩))
  refine bodyPost_ret (v:=.tuple #[.slice Option.none 0 0,.int .i64 1]) (by simp [results,Tryz.results38,go_sem]) rfl ⟨.slice Option.none 0 0,rfl,IntRow.nil _ _,HX.out.trans hx2⟩
/-! ### (graph).next: the least process of wires that can come -/
def clks (d:Flat):List Bool:=d.procs.map (·.clocked)
theorem nextFrom_step (g:List (List Int)) (clk come:List Bool) (n k:Nat) (h:k<n):nextFrom g clk come (n-k) k=if ready g clk come k=true then (k:Int) else nextFrom g clk come (n-(k+1)) (k+1):=by
 obtain ⟨m,hm⟩:∃ m,n-k=m+1:=⟨n-k-1,by omega⟩
 rw [hm,nextFrom,show n-(k+1)=m by omega]
theorem ready_at (G:List (List Int)) (clk come:List Bool) (k:Nat) (lk:List Int) (cb pb:Bool) (h1:come[k]? = some cb) (h2:clk[k]? = some pb) (h3:G[k]? = some lk) :
  ready G clk come k=(!cb&&!pb&&lk.all fun q=>come.getD q.toNat false):=by
 unfold ready
 rw [List.getD_eq_getElem?_getD,List.getD_eq_getElem?_getD (l:=clk),List.getD_eq_getElem?_getD (l:=G),h1,h2,h3]
 rfl
theorem next_calls (d:Flat) (v gv:Value) (G:List (List Int)) (come:List Bool) (C:Nat) (w:World) (h:FlatV w v d) (hg:IntsL w gv G) (hln:G.length=d.procs.length) (hcl:come.length=G.length)
  (hC:Blk w C (come.map Value.bool).toArray 4) (hr:∀ l∈G,l.length<=1073741824/\∀ q∈l,0<=q/\q.toNat<G.length) (hG:G.length<=1073741824) :
  Calls Tryz.prog 87 #[gv,v,.slice (some ⟨C,0,none⟩) G.length G.length] w fun r w'=>r=.returned (.int .i64 (nextM G (clks d) come))/\Ext w w':=by
 obtain ⟨sv,pv,cv,rfl,hS,hP,hCk⟩:=h
 obtain ⟨a0,b0,o0,c0,rfl,hc1,hc2,ha,hpr⟩:=hP.open
 obtain ⟨ag,bg,og,cg,rfl,hg1,hg2,hag,hgr⟩:=hg.open
 obtain ⟨n,hn⟩:∃ n,G.length=n:=⟨_,rfl⟩
 have hdn:d.procs.length=n:=by rw [<-hln,hn]
 obtain ⟨res,hres⟩:∃ res,nextM G (clks d) come=res:=⟨_,rfl⟩
 have hres0:nextFrom G (clks d) come (n-0) 0=res:=by rw [<-hres,nextM,hn];rfl
 rw [hdn] at hc1 ha ⊢
 rw [hn] at hg1 hag hcl hr hG ⊢
 rw [hres]
 have HN:=Jh hn
 have HDN:=Jh hdn
 have HX:=Jh (ext_alloc w (.cells [sv,.slice a0 n c0,cv].toArray 26))
 have HB:=Jh (Blk.new w [sv,.slice a0 n c0,cv].toArray 26)
 have HA:=Jh ha
 have HPR:=Jh hpr
 have HAG:=Jh hag
 have HGR:=Jh hgr
 have HC:=Jh hC
 have HR:=Jh hr
 have HCL:=Jh hcl
 have HRES:=Jh hres0
 have hcb:=hC.lt
 clear hS hCk hP hg ha hpr hag hgr hC hr hcl hn hdn hln hres hres0
 go_enter Tryz.func87,Tryz.ntmps87
 go_wp2_with fail
 go_step3
 go_wp2_with fail
 go_step3
 go_wp2_with fail
 generalize w.alloc _=w1 at *
 refine wp_loop (fun a wr=>∃ (k:Nat) (x7 x8 x9 x10 x14 x15 x16 x17 x18 x19 x20 x21 x22 x23 x24 x25 x26 x27 x28 x29 x30 x31 x32 x33 x34 x35 x36 x37 x38 x39 x40 x41 x42 x43:Value),a=⟨#[.slice ag n cg,.agg #[sv,.slice a0 n c0,cv],.slice (some ⟨C,0,Option.none⟩) n n,undef,.pointer (some ⟨w.heap.size,0,Option.none⟩),undef,.int .i64 0,x7,x8,x9,x10,.slice ag n cg,.int .i64 n,.int .i64 (k:Int),x14,x15,x16,x17,x18,x19,x20,x21,x22,x23,x24,x25,x26,x27,x28,x29,x30,x31,x32,x33,x34,x35,x36,x37,x38,x39,x40,x41,x42,x43],[]⟩ /\
  k<=n/\Hid (nextFrom G (clks d) come (n-k) k=res)/\wr=w1) (fun a _=>n-(intOf (a.tmps.getD 13 undef)).toNat)
  ⟨0,_,_,_,_,_,_,_,_,_,_,_,_,_,_,_,_,_,_,_,_,_,_,_,_,_,_,_,_,_,_,_,_,_,_,rfl,Nat.zero_le _,HRES,rfl⟩ ?_
 rintro a wr ⟨k,x7,x8,x9,x10,x14,x15,x16,x17,x18,x19,x20,x21,x22,x23,x24,x25,x26,x27,x28,x29,x30,x31,x32,x33,x34,x35,x36,x37,x38,x39,x40,x41,x42,x43,rfl,hk,HK,rfl⟩
 by_cases hlt:k<n
 ·obtain rfl:=HA.out (by omega)
  obtain rfl:=HAG.out (by omega)
  have hkc:k<come.length:=by rw [HCL.out];exact hlt
  have hkp:k<d.procs.length:=by rw [HDN.out];exact hlt
  have hkg:k<G.length:=by rw [HN.out];exact hlt
  obtain ⟨s1,hhas,-⟩:=Procs.get HPR.out hkp
  obtain ⟨u,he1,he2⟩:=HGR.out.get (List.getElem?_eq_getElem hkg)
  have yc:=(HC.out.ext HX.out).cell k
  rw [List.getElem?_toArray,List.getElem?_map,List.getElem?_eq_getElem hkc] at yc
  simp only [Option.map_some] at yc
  have yp:=(hhas.ext HX.out) 0 _ rfl
  have yf:=HB.out.has 1 _ rfl
  have yg:=(he1.ext HX.out) 0 _ rfl
  simp only [Nat.mul_one,Nat.add_zero,Nat.zero_add] at yg yp yf
  obtain ⟨au,bu,ou,cu,rfl,hu1,hu2,hua,hur⟩:=(he2.ext HX.out).open
  have hrk:=HR.out _ (List.getElem_mem hkg)
  have hready:=ready_at G (clks d) come k G[k] come[k] d.procs[k].clocked (List.getElem?_eq_getElem hkc) (by unfold clks;rw [List.getElem?_map,List.getElem?_eq_getElem hkp];rfl) (List.getElem?_eq_getElem hkg)
  have hstep:=nextFrom_step G (clks d) come n k hlt
  rw [hready,HK.out] at hstep
  generalize G[k]=lk at *
  generalize come[k]=cb at *
  generalize d.procs[k].clocked=pb at *
  have HSTEP:=Jh hstep
  have HUA:=Jh hua
  have HUR:=Jh hur
  have HRK:=Jh hrk.2
  have hlk:=hrk.1
  clear hready hstep he1 he2 hhas hkc hkp hkg hua hur hrk
  cases cb
  ·cases pb
   ·have hall:(if (lk.all fun q=>come.getD q.toNat false)=true then (k:Int) else nextFrom G (clks d) come (n-(k+1)) (k+1))=res:=by
     have:=HSTEP.out
     simpa using this.symm
    have HALL:=Jh hall
    clear hall HSTEP
    go_wp2_with fail
    refine wp_loop (fun a wi=>∃ (j:Nat) (y10 y33 y34 y35 y36 y37 y38 y39 y40 y41 y42 y43:Value),a=⟨#[.slice (some ⟨bg,og,Option.none⟩) n cg,.agg #[sv,.slice (some ⟨b0,o0,Option.none⟩) n c0,cv],.slice (some ⟨C,0,Option.none⟩) n n,undef,.pointer (some ⟨w.heap.size,0,Option.none⟩),undef,.int .i64 0,.int .i64 (k:Int),.slice au lk.length cu,x9,y10,.slice (some ⟨bg,og,Option.none⟩) n cg,.int .i64 n,.int .i64 (k:Int),.bool true,.int .i64 (k:Int),.pointer (some ⟨bg,og+k,Option.none⟩),.slice au lk.length cu,.slice (some ⟨C,0,Option.none⟩) n n,.int .i64 (k:Int),.pointer (some ⟨C,k,Option.none⟩),.bool false,.bool false,.pointer (some ⟨w.heap.size,1,Option.none⟩),.slice (some ⟨b0,o0,Option.none⟩) n c0,.int .i64 (k:Int),.pointer (some ⟨b0,o0+k*2,Option.none⟩),.pointer (some ⟨b0,o0+k*2,Option.none⟩),.bool false,.bool false,.slice au lk.length cu,.int .i64 lk.length,.int .i64 (j:Int),y33,y34,y35,y36,y37,y38,y39,y40,y41,y42,y43],[]⟩ /\
     j<=lk.length/\Hid ((lk.drop j).all (fun q=>come.getD q.toNat false)=lk.all fun q=>come.getD q.toNat false)/\wi=wr) (fun a _=>lk.length-(intOf (a.tmps.getD 32 undef)).toNat)
     ⟨0,_,_,_,_,_,_,_,_,_,_,_,_,rfl,Nat.zero_le _,Jh rfl,rfl⟩ ?_
    rintro a wi ⟨j,y10,y33,y34,y35,y36,y37,y38,y39,y40,y41,y42,y43,rfl,hj,HJ,rfl⟩
    by_cases hjl:j<lk.length
    ·obtain rfl:=HUA.out (by omega)
     have hq:=HUR.out.get (List.getElem?_eq_getElem hjl)
     have yq:=hq 0 _ rfl
     simp only [Nat.mul_one,Nat.add_zero] at yq
     have hqr:=HRK.out _ (List.getElem_mem hjl)
     have hJ:=HJ.out
     rw [List.drop_eq_getElem_cons hjl,List.all_cons] at hJ
     generalize lk[j]=q at *
     obtain ⟨q',rfl⟩:∃ q':Nat,q=q':=⟨q.toNat,by omega⟩
     have hqc:q'<come.length:=by have:=HCL.out;omega
     have ycq:=(HC.out.ext HX.out).cell q'
     rw [List.getElem?_toArray,List.getElem?_map,List.getElem?_eq_getElem hqc] at ycq
     simp only [Option.map_some] at ycq
     have hgd:come.getD ((q':Int)).toNat false=come[q']:=by rw [Int.toNat_natCast,List.getD_eq_getElem?_getD,List.getElem?_eq_getElem hqc];rfl
     rw [hgd] at hJ
     generalize come[q']=cq at *
     have HJ2:=Jh hJ
     clear hJ hq hqc hgd HJ
     cases cq
     ·have hnx:nextFrom G (clks d) come (n-(k+1)) (k+1)=res:=by
       have e:=HJ2.out
       rw [Bool.false_and] at e
       have:=HALL.out
       rw [<-e] at this
       simpa using this
      have HNX:=Jh hnx
      clear hnx HALL HJ2
      go_wp2_with fail
      exact ⟨⟨k+1,by omega,by omega,HNX⟩,by simp [intOf];omega⟩
     ·have hJ3:(lk.drop (j+1)).all (fun q=>come.getD q.toNat false)=lk.all fun q=>come.getD q.toNat false:=by
       have e:=HJ2.out
       rwa [Bool.true_and] at e
      have HJ3:=Jh hJ3
      clear hJ3 HJ2
      go_wp2_with fail
      exact ⟨⟨j+1,by omega,by omega,HJ3⟩,by simp [intOf];omega⟩
    ·have hjj:j=lk.length:=by omega
     have hall:(k:Int)=res:=by
      have e:=HJ.out
      rw [hjj,List.drop_length,List.all_nil] at e
      have:=HALL.out
      rw [<-e] at this
      simpa using this
     have HAL2:=Jh hall
     clear hall HJ HALL
     go_wp2_with fail
     try rw [Exit.noGoto_ret]
     go_ret
     exact ⟨ret_int HAL2.out,HX.out⟩
   ·have hnx:nextFrom G (clks d) come (n-(k+1)) (k+1)=res:=by
     have:=HSTEP.out
     simpa using this.symm
    have HNX:=Jh hnx
    clear hnx HSTEP
    go_wp2_with fail
    exact ⟨⟨k+1,by omega,by omega,HNX⟩,by simp [intOf];omega⟩
  ·have hnx:nextFrom G (clks d) come (n-(k+1)) (k+1)=res:=by
    have:=HSTEP.out
    simpa using this.symm
   have HNX:=Jh hnx
   clear hnx HSTEP
   go_wp2_with fail
   exact ⟨⟨k+1,by omega,by omega,HNX⟩,by simp [intOf];omega⟩
 ·obtain rfl:k=n:=by omega
  go_wp2_with fail
  try rw [Exit.noGoto_ret]
  go_ret
  have:=HK.out
  rw [Nat.sub_self,nextFrom] at this
  exact ⟨ret_int this,HX.out⟩
/-! ### (graph).order -/
theorem info_bool:(Tryz.prog.info? 4).map (fun i=>(i.zero,i.size,i.bytes))=some (some (.bool false),1,1):=by kernel_rfl
theorem blk_setB {w:World} {g:Nat} {l:List Bool} (h:Blk w g (l.map Value.bool).toArray 4) (j:Nat) (x:Bool):Blk (w.setCell ⟨g,j,none⟩ (.bool x)) g ((l.set j x).map Value.bool).toArray 4:=by
 have:=h.set j (.bool x)
 rw [Ja] at this
 rw [List.map_set]
 exact this
theorem falses_le (l:List Bool):falses l<=l.length:=List.countP_le_length
def lenV:Value->Nat
 | .slice _ m _=>m
 | _=>0
def ordM (G:List (List Int)) (clk:List Bool):List Int:=orderM G clk (G.length+1) (List.replicate G.length false) []
theorem order_calls (d:Flat) (v gv:Value) (G:List (List Int)) (w:World) (h:FlatV w v d) (hg:IntsL w gv G) (hln:G.length=d.procs.length) (hG:G.length<=1073741824)
  (hr:∀ l∈G,l.length<=1073741824/\∀ q∈l,0<=q/\q.toNat<G.length) :
  Calls Tryz.prog 68 #[gv,v] w fun r w'=>∃ u,r=.returned u/\IntRow w.heap.size u (ordM G (clks d)) w'/\Ext w w':=by
 have HF:=Jh h
 have HGL:=Jh hg
 have HR:=Jh hr
 have HLN:=Jh hln
 obtain ⟨sv,pv,cv,rfl,hS,hP,hCk⟩:=h
 have HX:=Jh (ext_alloc w (.cells [sv,pv,cv].toArray 26))
 have HB:=Jh (Blk.new w [sv,pv,cv].toArray 26)
 obtain ⟨ag,bg,og,cg,rfl,hg1,hg2,hag,hgr⟩:=hg.open
 obtain ⟨n,hn⟩:∃ n,G.length=n:=⟨_,rfl⟩
 obtain ⟨res,hres⟩:∃ res,ordM G (clks d)=res:=⟨_,rfl⟩
 have hres0:orderM G (clks d) (n+1) (List.replicate n false) []=res:=by rw [<-hres,<-hn];rfl
 rw [hn] at hG hg1 HGL
 rw [hn,hres]
 have HN:=Jh hn
 have HRES:=Jh hres0
 clear hS hP hCk hg hr hag hgr hln hres hres0 hn
 go_enter Tryz.func68,Tryz.ntmps68
 go_upto_region 1 with fail
 generalize w.alloc _=w1 at *
 go_wp2_with ((with_reducible show Jw (Op.makeSlice _ _ _));refine Hid.out ?_)
 refine Jh ?_
 have hx2:=ext_alloc w1 (.cells (madeCells (Value.bool false).cells (n*1)) 4)
 have hb2:=Blk.new w1 (madeCells (Value.bool false).cells (n*1)) 4
 rw [show madeCells (Value.bool false).cells (n*1)=(List.replicate n (Value.bool false)).toArray by rw [Nat.mul_one];exact madeCells_one _ _] at hx2 hb2
 refine wpList_mk rfl _ _ _ rfl (n:=n) rfl rfl Tryz.underlying64 info_bool (by omega) (by omega) ?_
 rw [show madeCells (Value.bool false).cells (n*1)=(List.replicate n (Value.bool false)).toArray by rw [Nat.mul_one];exact madeCells_one _ _]
 have hs2:(w1.alloc (.cells (List.replicate n (Value.bool false)).toArray 4)).heap.size=w1.heap.size+1:=by simp
 generalize w1.alloc _=w2 at *
 obtain ⟨c,hc⟩:∃ c,w1.heap.size=c:=⟨_,rfl⟩
 have hcw:w.heap.size<=c:=by rw [<-hc];exact HX.out.size
 rw [hc] at hb2 hs2 ⊢
 have hb2':Blk w2 c ((List.replicate n false).map Value.bool).toArray 4:=by rw [List.map_replicate];exact hb2
 have HC:=Jh hc
 have HX2:=Jh hx2
 have HB2:=Jh hb2'
 have hz2:c<w2.heap.size:=by omega
 clear hc hx2 hb2 hb2' hs2
 /- one call of next -/
 have NEXT:Hid (∀ (come:List Bool) (W:World),come.length=n->Blk W c (come.map Value.bool).toArray 4->Ext w1 W ->
   Calls Tryz.prog 87 #[.slice ag n cg,.agg #[sv,pv,cv],.slice (some ⟨c,0,none⟩) n n] W fun r w'=>r=.returned (.int .i64 (nextM G (clks d) come))/\Ext W w'):=Jh fun come W h1 h2 h3=>by
  have hXW:=HX.out.trans h3
  have:=next_calls d (.agg #[sv,pv,cv]) (.slice ag n cg) G come c W (HF.out.ext hXW) (HGL.out.ext hXW) HLN.out (by rw [h1,HN.out]) h2 HR.out (by rw [HN.out];exact hG)
  rw [HN.out] at this
  exact this
 have HBX:=Jh (HB.out.ext HX2.out)
 have N0:=Jh (NEXT.out (List.replicate n false) w2 (by simp) HB2.out HX2.out)
 go_upto_region 4 with (first | ((with_reducible show Jl 26);refine Jm 26 (HBX.out.has) agg_Flat rfl ?_) | (go_at_call 87;refine N0.out.mono ?_;rintro r w3 ⟨rfl,hx3⟩))
 have hb3:=HB2.out.ext hx3
 have hX3:=HX2.out.trans hx3
 have hfl:falses (List.replicate n false)=n:=by unfold falses;rw [List.countP_replicate];simp
 refine wp_loop (fun a wr=>∃ (u:Value) (come:List Bool) (out:List Int) (fuel:Nat) (x1 x2 x8 x9 x10 x11 x12 x13 x14 x15 x16 x17 x18 x19 x20 x21 x22 x23 x24 x25 x26 x27 x28:Value),a=⟨#[.slice ag n cg,x1,x2,.pointer (some ⟨w.heap.size,0,Option.none⟩),.slice Option.none 0 0,.slice (some ⟨c,0,Option.none⟩) n n,u,.int .i64 (nextM G (clks d) come),x8,x9,x10,x11,x12,x13,x14,x15,x16,x17,x18,x19,x20,x21,x22,x23,x24,x25,x26,x27,x28],[]⟩ /\
  come.length=n/\out.length+falses come=n/\falses come<fuel/\Hid (orderM G (clks d) fuel come out=res)/\Blk wr c (come.map Value.bool).toArray 4/\IntRow c u out wr/\Ext w1 wr) (fun a _=>n-lenV (a.tmps.getD 6 undef))
  ⟨_,List.replicate n false,[],n+1,_,_,_,_,_,_,_,_,_,_,_,_,_,_,_,_,_,_,_,_,_,_,_,rfl,by simp,by rw [hfl];simp,by rw [hfl];omega,HRES,hb3,IntRow.nil _ _,hX3⟩ ?_
 clear hb3 hX3 hfl HRES HB2 N0 HX2 HBX hx3
 rintro a wr ⟨u,come,out,fuel,x1,x2,x8,x9,x10,x11,x12,x13,x14,x15,x16,x17,x18,x19,x20,x21,x22,x23,x24,x25,x26,x27,x28,rfl,hcl,hof,hff,HO,hbc,hro,hxr⟩
 obtain ⟨au,cu,hu,-⟩:=hro.open
 have HBC:=Jh hbc
 have HRO:=Jh hro
 have HXR:=Jh hxr
 have HCL:=Jh hcl
 have hcr:=hbc.lt
 obtain ⟨f,hfe⟩:∃ f,fuel=f+1:=⟨fuel-1,by omega⟩
 rw [hfe] at HO hff
 have hord:=HO.out
 rw [orderM] at hord
 try simp only at hord
 clear hbc hro hxr hcl HO hfe
 rcases nextM_spec G (clks d) come with ⟨h1,h2⟩ | ⟨k,h1,h2,h3⟩
 ·rw [h1,if_neg (by decide)] at hord
  have HORD:=Jh hord
  subst hu
  rw [h1]
  clear h1 h2 hord
  go_wp2_with fail
  go_ret
  exact ⟨_,rfl,by rw [<-HORD.out];exact HRO.out.less hcw,HX.out.trans HXR.out⟩
 ·rw [h1,if_pos (by omega),Int.toNat_natCast] at hord
  have hkn:k<n:=by rw [<-HN.out];exact h2
  have hfp:=falses_pos come k (by rw [HCL.out];exact hkn) ((ready_iff _ _ _ _).1 h3).1
  have hkc:k<come.length:=by rw [HCL.out];exact hkn
  rw [h1]
  obtain ⟨m,hm⟩:∃ m,out.length=m:=⟨_,rfl⟩
  rw [hm] at hu hof
  have hmn:m<n:=by omega
  subst hu
  have HM:=Jh hm
  have HORD:=Jh hord
  have yc:=HBC.out.cell k
  rw [List.getElem?_toArray,List.getElem?_map,List.getElem?_eq_getElem hkc] at yc
  simp only [Option.map_some] at yc
  generalize come[k]=cb at yc
  have yf:=HBC.out.frozen k
  have hb4:=blk_setB HBC.out k true
  have hg4:=gb_set wr c k (.bool true)
  have hr4:=HRO.out.grown hg4 (fun q hq e=>HRO.out.ne HBC.out (by decide) hq (by cases e;rfl))
  have hx4:Ext w1 _:=Ext.grown HXR.out hg4 (by rw [HC.out];exact Nat.le_refl _)
  have hs4:=hg4.size
  have hcome:(come.set k true).length=n:=by rw [List.length_set];exact HCL.out
  have hof2:m+1+falses (come.set k true)=n:=by omega
  have hff2:falses (come.set k true)<f:=by omega
  generalize come.set k true=come' at *
  have HB4:=Jh hb4
  have HR4:=Jh hr4
  have HX4:=Jh hx4
  have HCO:=Jh hcome
  clear h1 h2 h3 hord hfp hkc hm hb4 hg4 hr4 hx4 hcome hof hff
  go_upto_region 7 with fail
  generalize wr.setCell _ _=w4 at *
  have hx5:=ext_alloc w4 (.cells [Value.int .i64 (k:Int)].toArray 3)
  have hb5:=Blk.new w4 [Value.int .i64 (k:Int)].toArray 3
  have hr5:=HR4.out.ext hx5
  have hs5:(w4.alloc (.cells [Value.int .i64 (k:Int)].toArray 3)).heap.size=w4.heap.size+1:=by simp
  have hbc5:=HB4.out.ext hx5
  have hX5:=HX4.out.trans hx5
  have hww:=(HX.out.trans hX5).size
  go_wp2_with (first | ((with_reducible show Jw (Op.buildSlice _ _ _));refine wpList_bs1 rfl _ _ rfl appInt rfl (cs:=[Value.int .i64 (k:Int)]) rfl rfl (by decide) ?_) | ((with_reducible show Jw (Op.call { callee:=.builtin .append,args:=_,argTypes:=_ }));refine Hid.out ?_))
  refine Jh ?_
  refine wpList_appI (m:=1) (news:=[(k:Int)]) rfl _ _ rfl rfl hr5 rfl (fun _=>Nat.lt_of_lt_of_le Nat.zero_lt_one (Nat.le_refl 1)) rfl (news_has hb5.has) (by rw [HM.out];omega) (by omega) ?_
  intro g6 cap6 w6 hr6 hg6
  rw [HM.out] at hr6 ⊢
  have hbc6:Blk w6 c (come'.map Value.bool).toArray 4:=(hg6.block _ hbc5.lt (fun e=>hr5.ne hbc5 (by decide) e.symm rfl)).trans hbc5
  have hX6:Ext w1 w6:=Ext.grownO hX5 hg6 (fun q hq=>by rw [HC.out];exact (hr5.at hq).1)
  have HBX6:=Jh (HB.out.ext hX6)
  have N6:=Jh (NEXT.out come' w6 HCO.out hbc6 hX6)
  have HR6:=Jh hr6
  have HX6:=Jh hX6
  have HBC6:=Jh hbc6
  clear hr6 hX6 hbc6 hg6 hr5 hb5 hbc5 hX5 hs5 hx5 hww
  generalize w4.alloc _=w5 at *
  go_wp2_with (first | ((with_reducible show Jl 26);refine Jm 26 (HBX6.out.has) agg_Flat rfl ?_) | (go_at_call 87;refine N6.out.mono ?_;rintro r w7 ⟨rfl,hx7⟩))
  exact ⟨⟨_,come',out++[(k:Int)],f,_,_,_,_,_,_,_,_,_,_,_,_,_,_,_,_,_,_,_,_,_,_,_,rfl,HCO.out,by rw [List.length_append,HM.out];exact hof2,hff2,HORD,HBC6.out.ext hx7,HR6.out.ext hx7,HX6.out.trans hx7⟩,by simp [lenV];omega⟩
/-! ### plain: what is found of a design -/
def rsM (d:Flat):List (List Int):=(List.range d.procs.length).map fun (p:Nat)=>readsM d (p:Int)
def graphM (d:Flat) (by':List Int):List (List Int):=hangM by' (clks d) (rsM d)
theorem graphM_length (d:Flat) (by':List Int):(graphM d by').length=d.procs.length:=by simp [graphM,hangM,rsM]
theorem graphM_get (d:Flat) (by':List Int) {k:Nat} (hk:k<d.procs.length):(graphM d by')[k]? = some (hang1 by' (clks d) (readsM d (k:Int)) []):=by
 simp [graphM,hangM,rsM,List.getElem?_range,hk]
def subM (ls:List Signal) (by':List Int) (s:Nat):List Int:=(by'.drop (sumW ls s).toNat).take (sumW ls (s+1)-sumW ls s).toNat
def noneF (ls:List Signal) (by':List Int):Nat->List Signal->Bool
 | _,[]=>false
 | s,x::l=>if ((decide (x.kind=2)||decide (x.kind=3))&&(subM ls by' s).contains (-1))=true then true else noneF ls by' (s+1) l
def latF (d:Flat):Nat->List Proc->Bool
 | _,[]=>false
 | p,x::l=>if (!x.clocked&&!decide ((writesM d (p:Int)).length=(alwaysM d (p:Int)).length))=true then true else latF d (p+1) l
def lookM (d:Flat):Int × List (List Int) × List Int :=
 if (drvD d).1≠0 then ((drvD d).1,[],[])
 else if noneF d.signals (drvD d).2 0 d.signals=true then (121,[],[])
 else if latF d 0 d.procs=true then (122,[],[])
 else if (ordM (graphM d (drvD d).2) (clks d)).length<wiresM (clks d) then (123,[],[])
 else (0,graphM d (drvD d).2,ordM (graphM d (drvD d).2) (clks d))
theorem drvD_cases (d:Flat):(∃ e,drvD d=(e,[])/\e≠0)\/(checkM d=0/\∃ o,drvD d=(0,o)/\drvM (nBits d).toNat (wsM d)=some o):=by
 unfold drvD
 by_cases h:checkM d=0
 ·rw [if_pos h]
  cases hd:drvM (nBits d).toNat (wsM d) with
  | none=>exact .inl ⟨120,rfl,by decide⟩
  | some o=>exact .inr ⟨h,o,rfl,rfl⟩
 ·rw [if_neg h]
  exact .inl ⟨1,rfl,by decide⟩
theorem wsM_range {d:Flat} (hok:d.ok) (hc:checkM d=0):∀ l∈wsM d,∀ b∈l,0<=b/\b<((nBits d).toNat:Nat):=by
 intro l hl b hb
 obtain ⟨p,hp,rfl⟩:=List.mem_map.1 hl
 have:=writesM_range hok hc (p:=(p:Int)) (by simpa using hp) b hb
 omega
theorem drvD_len {d:Flat} (hok:d.ok) (hc:checkM d=0) {o:List Int} (ho:drvM (nBits d).toNat (wsM d)=some o):(o.length:Int)=nBits d/\∀ x∈o,-1<=x/\x<d.procs.length:=by
 have:=nBits_le hok hc
 have h1:=drvM_length ho
 refine ⟨by omega,fun x hx=>?_⟩
 have:=drvM_range (wsM_range hok hc) ho x hx
 rwa [wsM_length] at this
theorem graphM_range {d:Flat} (hok:d.ok) (hc:checkM d=0) {by':List Int} (hbl:(by'.length:Int)=nBits d) (hbr:∀ x∈by',-1<=x/\x<d.procs.length) :
  ∀ l∈graphM d by',l.length<=1073741824/\∀ q∈l,0<=q/\q.toNat<(graphM d by').length:=by
 intro l hl
 obtain ⟨r,hr,rfl⟩:=List.mem_map.1 hl
 obtain ⟨p,hp,rfl⟩:=List.mem_map.1 hr
 have hp':p<d.procs.length:=by simpa using hp
 have hrr:=readsM_range hok hc (p:=(p:Int)) (by simpa using hp')
 have hq:∀ q∈hang1 by' (clks d) (readsM d (p:Int)) [],0<=q/\q.toNat<(graphM d by').length:=by
  intro q hq
  obtain ⟨h1,-,b,hb,h3⟩:=(mem_hang _ _ _ _).1 hq
  refine ⟨h1,?_⟩
  rw [graphM_length]
  have:=hrr b hb
  have hlt:b.toNat<by'.length:=by omega
  rw [List.getD_eq_getElem?_getD,List.getElem?_eq_getElem hlt] at h3
  have:=hbr _ (List.getElem_mem hlt)
  simp only [Option.getD_some] at h3
  omega
 refine ⟨?_,hq⟩
 have key:∀ (r g:List Int),(hang1 by' (clks d) r g).length<=g.length+r.length:=by
  intro r
  induction r with
  | nil=>intro g;simp [hang1]
  | cons b r ih =>
   intro g
   rw [hang1]
   try simp only
   split
   ·have:=ih (g++[by'.getD b.toNat 0]);simp only [List.length_append,List.length_cons,List.length_nil] at this ⊢;omega
   ·have:=ih g;simp only [List.length_cons];omega
 have h1:=key (readsM d (p:Int)) []
 have h2:(readsM d (p:Int)).length<=(nBits d).toNat:=lt_length _ _ (numbersM_lt _ _:(readsM d (p:Int)).Pairwise (·<·)) hrr
 have h3:=nBits_le hok hc
 simp only [List.length_nil] at h1
 omega
theorem ints_sub {w:World} {g c:Nat} {l:List Int} (h:∀ i x,l[i]? = some x->w.cell? ⟨g,i,none⟩=some (.int .i64 x)) {a n:Nat} (hn:a+n<=l.length) (hc:n<=c) (hm:c<=9223372036854775807) :
  Ints w (.slice (some ⟨g,a,none⟩) n c) ((l.drop a).take n):=by
 have hl:((l.drop a).take n).length=n:=by simp;omega
 refine ⟨g,a,⟨_,c,by rw [hl],by rw [hl];exact hc,by simpa [maxLen] using hm,fun _=>rfl⟩,?_⟩
 refine rows_flat (f:=fun x=>[Value.int .i64 x]) (fun _=>rfl) _ a ?_
 rw [flat1]
 intro j u hj
 rw [List.getElem?_map] at hj
 cases hq:((l.drop a).take n)[j]? with
 | none=>rw [hq] at hj;cases hj
 | some x =>
  rw [hq] at hj
  cases hj
  refine h (a+j) x ?_
  rw [List.getElem?_take] at hq
  split at hq
  ·rw [List.getElem?_drop] at hq;exact hq
  ·cases hq
end Go.Proofs.YtoaamjgfhppppaaGreat
