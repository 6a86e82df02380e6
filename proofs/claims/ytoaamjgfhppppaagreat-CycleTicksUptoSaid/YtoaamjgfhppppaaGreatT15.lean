/- Laws and walks that a claim of this seat leans on: Drive, MarkL, WsL, EvalM. -/
import Derived.Test.YtoaamjgfhppppaaGreatT14
import Derived.Test.YtoaamjgfhppppaaGreatT06
import Derived.Test.YtoaamjgfhppppaaGreatT08
import Derived.Test.YtoaamjgfhppppaaGreatT01
import Derived.Test.YtoaamjgfhppppaaGreatT00
set_option maxRecDepth 100000
set_option maxHeartbeats 8000000
set_option linter.all false
namespace Go.Proofs.YtoaamjgfhppppaaGreat
open Go.RowKit
/-! ### plain: the bits that processes write and read are the design's -/
def SpanD (ls:List Signal) (s:Span):Prop:=0<=s.sig/\s.sig<ls.length/\0<=s.lo/\s.hi<sigW ls s.sig
theorem slice_span {ls:List Signal} {sig hi lo:Int} (h:slice ls sig hi lo=true):SpanD ls ⟨sig,hi,lo⟩:=by
 unfold slice at h
 simp only [Bool.and_eq_true,decide_eq_true_eq] at h
 unfold SpanD
 simp only
 omega
theorem span_bits (ls:List Signal) {s:Span} (h:SpanD ls s) {j:Int} (h1:s.lo<=j) (h2:j<=s.hi) :
  s.sig.toNat<ls.length/\sumW ls s.sig.toNat<=(offsM ls ls.length).getD s.sig.toNat 0+j/\(offsM ls ls.length).getD s.sig.toNat 0+j<sumW ls (s.sig.toNat+1):=by
 obtain ⟨a,b,c,e⟩:=h
 have hlt:s.sig.toNat<ls.length:=by omega
 rw [offsM_getD _ _ _ (by omega),sumW_succ ls _ hlt]
 unfold sigW at e
 rw [List.getElem?_eq_getElem hlt] at e
 simp only at e
 omega
theorem ProcD.spansW {d:Flat} {l:List T} (h:ProcD d l):∀ s∈spansW l,SpanD d.signals s:=by
 intro s hs
 unfold Go.Proofs.YtoaamjgfhppppaaGreat.spansW wS at hs
 obtain ⟨t,ht,rfl⟩:=List.mem_map.1 hs
 obtain ⟨ht,ho⟩:=List.mem_filter.1 ht
 exact slice_span (((StD_iff _ _).1 (h.each t (List.mem_of_mem_take ht))).1 (by simpa using ho))
theorem partsE_span (ls:List Signal) (e:E):shape ls e=true->∀ s∈partsE ls e,SpanD ls s:=by
 induction e using E.ind with
 | h e ih =>
  intro he s hs
  rw [shape_eq,Bool.and_eq_true,List.all_eq_true] at he
  rw [partsE_eq,List.mem_append] at hs
  rcases hs with hs | hs
  ·unfold spans0 at hs
   split at hs
   ·rename_i h2
    have h0:=he.1
    rw [h2] at h0
    simp [shape0] at h0
    rw [List.mem_singleton.1 hs]
    exact slice_span h0.1.2
   ·split at hs
    ·rename_i h3
     have h0:=he.1
     rw [h3] at h0
     simp [shape0] at h0
     rw [List.mem_singleton.1 hs]
     unfold SpanD
     simp only
     omega
    ·cases hs
  ·obtain ⟨m,hm,hs⟩:=List.mem_flatten.1 hs
   obtain ⟨y,hy,rfl⟩:=List.mem_map.1 hm
   exact ih y hy (he.2 y hy) s hs
theorem ProcD.spansR {d:Flat} {l:List T} (h:ProcD d l):∀ s∈spansR d.signals l,SpanD d.signals s:=by
 intro s hs
 unfold Go.Proofs.YtoaamjgfhppppaaGreat.spansR rS at hs
 obtain ⟨m,hm,hs⟩:=List.mem_flatten.1 hs
 obtain ⟨t,ht,rfl⟩:=List.mem_map.1 hm
 obtain ⟨m,hm,hs⟩:=List.mem_flatten.1 hs
 obtain ⟨e,he,rfl⟩:=List.mem_map.1 hm
 exact partsE_span _ e (((StD_iff _ _).1 (h.each t (List.mem_of_mem_take ht))).2.2.1 e he) s hs
def nBits (d:Flat):Int:=sumW d.signals d.signals.length
theorem numbersM_range {d:Flat} {l:List T} (h:ProcD d l) (xs:List Span) (hx:∀ s∈xs,SpanD d.signals s):∀ b∈numbersM (offsD d) xs,0<=b/\b<nBits d:=by
 intro b hb
 obtain ⟨s,hs,j,h1,h2,rfl⟩:=(mem_numbersM _ _ _).1 hb
 obtain ⟨q1,q2,q3⟩:=span_bits d.signals (hx s hs) h1 h2
 have:=(sumW_le d.signals h.ow s.sig.toNat (by omega)).1
 have:=sumW_mono d.signals h.ow (s.sig.toNat+1) d.signals.length (by omega) (Nat.le_refl _)
 unfold nBits offsD
 omega
theorem writesM_range {d:Flat} (hok:d.ok) (hc:checkM d=0) {p:Int} (hp:p.toNat<d.procs.length):∀ b∈writesM d p,0<=b/\b<nBits d:=by
 have hD:=procD_of hok hc p.toNat hp
 unfold writesM
 rw [procL_get hp]
 exact numbersM_range hD _ hD.spansW
theorem readsM_range {d:Flat} (hok:d.ok) (hc:checkM d=0) {p:Int} (hp:p.toNat<d.procs.length):∀ b∈readsM d p,0<=b/\b<nBits d:=by
 have hD:=procD_of hok hc p.toNat hp
 unfold readsM
 rw [procL_get hp]
 exact numbersM_range hD _ hD.spansR
theorem nBits_le {d:Flat} (hok:d.ok) (hc:checkM d=0):0<=nBits d/\nBits d<=67108864:=by
 have:=sumW_le d.signals (checkM_w hc) d.signals.length (Nat.le_refl _)
 have:=hok.signals
 unfold nBits
 omega
theorem lt_length (l:List Int) (n:Int) (hl:l.Pairwise (·<·)) (h:∀ b∈l,0<=b/\b<n):l.length<=n.toNat:=by
 have h1:(l.map Int.toNat).Nodup:=by
  rw [List.nodup_iff_pairwise_ne,List.pairwise_map]
  refine hl.imp_of_mem fun {a b} ha hb hab=>?_
  have:=h a ha;have:=h b hb
  omega
 have:=nodup_le (l.map Int.toNat) (List.range n.toNat) h1 fun x hx=>by
  obtain ⟨b,hb,rfl⟩:=List.mem_map.1 hx
  have:=h b hb
  rw [List.mem_range];omega
 simpa using this
def wsM (d:Flat):List (List Int):=(List.range d.procs.length).map fun (p:Nat)=>writesM d (p:Int)
theorem wsM_length (d:Flat):(wsM d).length=d.procs.length:=by simp [wsM]
theorem wsM_drop (d:Flat) (k:Nat) (hk:k<d.procs.length):(wsM d).drop k=writesM d (k:Int)::(wsM d).drop (k+1):=by
 rw [List.drop_eq_getElem_cons (by rw [wsM_length];exact hk)]
 simp [wsM]
def drvD (d:Flat):Int × List Int:=if checkM d=0 then (match drvM (nBits d).toNat (wsM d) with | none=>(120,[]) | some o=>(0,o)) else (1,[])
def drvEnd:Option (List Int)->Int × List Int
 | none=>(120,[])
 | some o=>(0,o)
theorem drvD_eq {d:Flat} (h:checkM d=0):drvD d=drvEnd (drvM (nBits d).toNat (wsM d)):=by
 unfold drvD drvEnd;rw [if_pos h]
theorem IntRow.ofBlk {N g:Nat} {l:List Int} {w:World} (h:Blk w g (l.map (Value.int .i64)).toArray 3) (hN:N<=g) (hm:l.length<=9223372036854775807):IntRow N (.slice (some ⟨g,0,none⟩) l.length l.length) l w :=
 ⟨by simp,.inr ⟨g,l.length,_,rfl,hN,h,Nat.le_refl _,by simpa [maxLen] using hm,by simp,by rw [Nat.mul_one];exact List.take_of_length_le (by simp)⟩⟩
theorem blk_setI {w:World} {g:Nat} {l:List Int} (h:Blk w g (l.map (Value.int .i64)).toArray 3) (j:Nat) (x:Int):Blk (w.setCell ⟨g,j,none⟩ (.int .i64 x)) g ((l.set j x).map (Value.int .i64)).toArray 3:=by
 have:=h.set j (.int .i64 x)
 rw [Ja] at this
 rw [List.map_set]
 exact this
theorem Bits_ok (d:Flat) (v:Value) (w:World) (h:FlatV w v d) (hok:d.ok) (hc:checkM d=0) :
  Calls Tryz.prog 13 #[v] w fun r w'=>∃ u,r=.returned (.tuple #[u,.int .i64 0])/\IntRow w.heap.size u (offsM d.signals d.signals.length) w'/\Ext w w':=by
 have:=Bits_calls d v w h hok
 rw [if_pos hc,if_pos hc] at this
 exact this
theorem toldOk_of {d:Flat} (hc:checkM d=0) {k:Nat} (hk:k<d.procs.length):toldOk d (k:Int)=true:=by
 unfold toldOk;simp [hc];omega
theorem Writes_ok (d:Flat) (v:Value) (w:World) (h:FlatV w v d) (hok:d.ok) (hc:checkM d=0) {k:Nat} (hk:k<d.procs.length) :
  Calls Tryz.prog 26 #[v,.int .i64 k] w fun r w'=>∃ u,r=.returned (.tuple #[u,.int .i64 0])/\IntRow w.heap.size u (writesM d k) w'/\Ext w w':=by
 have:=Writes_calls d v w h hok (k:Int) (by have:=hok.procs;omega)
 rw [if_pos (toldOk_of hc hk),if_pos (toldOk_of hc hk)] at this
 exact this
theorem Reads_ok (d:Flat) (v:Value) (w:World) (h:FlatV w v d) (hok:d.ok) (hc:checkM d=0) {k:Nat} (hk:k<d.procs.length) :
  Calls Tryz.prog 86 #[v,.int .i64 k] w fun r w'=>∃ u,r=.returned (.tuple #[u,.int .i64 0])/\IntRow w.heap.size u (readsM d k) w'/\Ext w w':=by
 have:=Reads_calls d v w h hok (k:Int) (by have:=hok.procs;omega)
 rw [if_pos (toldOk_of hc hk),if_pos (toldOk_of hc hk)] at this
 exact this
theorem Always_ok (d:Flat) (v:Value) (w:World) (h:FlatV w v d) (hok:d.ok) (hc:checkM d=0) {k:Nat} (hk:k<d.procs.length) :
  Calls Tryz.prog 66 #[v,.int .i64 k] w fun r w'=>∃ u,r=.returned (.tuple #[u,.int .i64 0])/\IntRow w.heap.size u (alwaysM d k) w'/\Ext w w':=by
 have:=Always_calls d v w h hok (k:Int) (by have:=hok.procs;omega)
 rw [if_pos (toldOk_of hc hk),if_pos (toldOk_of hc hk)] at this
 exact this
theorem Drivers_calls (d:Flat) (v:Value) (w:World) (h:FlatV w v d) (hok:d.ok) :
  Calls Tryz.prog 38 #[v] w fun r w'=>∃ u,r=.returned (.tuple #[u,.int .i64 (drvD d).1])/\IntRow w.heap.size u (drvD d).2 w'/\Ext w w':=by
 have HF:=Jh h
 obtain ⟨sv,pv,cv,rfl,hS,hP,hC⟩:=h
 have HX:=Jh (ext_alloc w (.cells [sv,pv,cv].toArray 26))
 have HB:=Jh (Blk.new w [sv,pv,cv].toArray 26)
 have HCK:=Jh (Check_calls d _ _ (HF.out.ext HX.out) hok)
 have hln:=hok.procs
 have hlns:=hok.signals
 obtain ⟨a0,b0,o0,c0,rfl,hc1,hc2,ha,hr⟩:=hP.open
 clear hS hP hC ha hr
 obtain ⟨ep,hep⟩:∃ ep,drvD d=ep:=⟨_,rfl⟩
 rw [hep]
 have HEP:=Jh hep
 clear hep
 go_enter Tryz.func38,Tryz.ntmps38
 go_upto_region 1 with fail
 have hs1:(w.alloc (.cells [sv,.slice a0 d.procs.length c0,cv].toArray 26)).heap.size=w.heap.size+1:=by simp
 generalize w.alloc _=w1 at *
 by_cases hck:checkM d=0
 ·have hnb:=nBits_le hok hck
  have hep:=HEP.out
  rw [drvD_eq hck] at hep
  obtain ⟨nb,hnbe⟩:∃ nb:Nat,nBits d=nb:=⟨(nBits d).toNat,by omega⟩
  rw [hnbe,Int.toNat_natCast] at hep
  rw [hnbe] at hnb
  have HNB:=Jh hnbe
  have HEN:=Jh hep
  have HC0:=Jh hck
  have HBT:=Jh (fun W (hx:Ext w1 W)=>Bits_ok d _ W ((HF.out.ext HX.out).ext hx) hok hck)
  rw [hck] at HCK
  clear hck hnbe hep
  go_upto_region 4 with (first | ((with_reducible show Jl 26);refine Jm 26 (HB.out.has) agg_Flat rfl ?_) | (go_at_call 41;refine HCK.out.mono ?_;rintro r w2 ⟨rfl,hx2⟩;have HB2:=Jh (HB.out.ext hx2)) | ((with_reducible show Jl 26);refine Jm 26 (HB2.out.has) agg_Flat rfl ?_) | (go_at_call 13;refine (HBT.out _ hx2).mono ?_;rintro r w3 ⟨u,rfl,hr3,hx3⟩))
  obtain ⟨gb,cb,hu,hgb,hgc⟩:=hr3.open1 (by rw [offsM_length];omega)
  rw [offsM_length] at hu
  subst hu
  have y0:=hgc d.signals.length (nBits d) (offsM_last _ _)
  rw [HNB.out] at y0
  have hx4:=ext_alloc w3 (.cells [Value.int .i64 (-1)].toArray 3)
  have hb4:=Blk.new w3 [Value.int .i64 (-1)].toArray 3
  have y4:=Has.one1 y0 hx4
  have hX4:=(hx2.trans hx3).trans hx4
  have hs4:=hX4.size
  clear hgc hgb hr3 y0
  go_upto_region 5 with (first | ((with_reducible show Jw (Op.buildSlice _ _ _));refine wpList_bs1 rfl _ _ rfl appInt rfl (cs:=[Value.int .i64 (-1)]) rfl rfl (by decide) ?_) | (go_at_call 63;refine (repeat_calls (-1) nb (by omega) _ _ hb4).mono ?_;rintro r w5 ⟨g,rfl,hg5,hb5,hx5⟩))
  have hX5:=hX4.trans hx5
  have hg1:w1.heap.size<=g:=by omega
  have hz5:=hX5.size
  have hb5':Blk w5 g ((List.replicate nb (-1:Int)).map (Value.int .i64)).toArray 3:=by rw [List.map_replicate];exact hb5
  have HBR:=Jh hb5'
  have HXR:=Jh hX5
  have y1:=(HB.out.ext hX5).has 1 _ rfl
  rw [Nat.zero_add] at y1
  clear hx4 hb4 y4 hX4 hs4 hx5 hg5 hx3 HB2 hx2 hb5 hb5' hX5
  generalize w3.alloc _=w4 at *
  go_wp2_with fail
  refine wp_loop (fun a wr=>∃ (k:Nat) (x0 x4 x5 x7 x8 x9 x10 x11 x12 x13 x14 x15 x16 x17 x18 x19 x20 x21 x22 x23 x24 x25 x26 x27 x28 x32 x33 x34 x35 x36 x37 x38 x39 x40 x41 x42 x43 x44 x45 x46 x47 x48 x49 x50 x51 x52 x53 x54 x55 x56 x57:Value),a=⟨#[x0,.pointer (some ⟨w.heap.size,0,Option.none⟩),.slice Option.none 0 0,.int .i64 0,x4,x5,.slice (some ⟨g,0,Option.none⟩) nb nb,x7,x8,x9,x10,x11,x12,x13,x14,x15,x16,x17,x18,x19,x20,x21,x22,x23,x24,x25,x26,x27,x28,.slice a0 d.procs.length c0,.int .i64 d.procs.length,.int .i64 (k:Int),x32,x33,x34,x35,x36,x37,x38,x39,x40,x41,x42,x43,x44,x45,x46,x47,x48,x49,x50,x51,x52,x53,x54,x55,x56,x57],[]⟩ /\
   k<=d.procs.length/\∃ out:List Int,out.length=nb/\Hid (drvEnd (drvs k ((wsM d).drop k) out)=ep)/\Blk wr g (out.map (Value.int .i64)).toArray 3/\Ext w1 wr) (fun a _=>d.procs.length-(intOf (a.tmps.getD 31 undef)).toNat)
   ⟨0,_,_,_,_,_,_,_,_,_,_,_,_,_,_,_,_,_,_,_,_,_,_,_,_,_,_,_,_,_,_,_,_,_,_,_,_,_,_,_,_,_,_,_,_,_,_,_,_,_,_,_,rfl,Nat.zero_le _,List.replicate nb (-1),by simp,HEN,HBR.out,HXR.out⟩ ?_
  clear HBR HXR y1 HEN HEP
  rintro a wr ⟨k,x0,x4,x5,x7,x8,x9,x10,x11,x12,x13,x14,x15,x16,x17,x18,x19,x20,x21,x22,x23,x24,x25,x26,x27,x28,x32,x33,x34,x35,x36,x37,x38,x39,x40,x41,x42,x43,x44,x45,x46,x47,x48,x49,x50,x51,x52,x53,x54,x55,x56,x57,rfl,hk,out,hol,HEN,hbr,hxr⟩
  have HOL:=Jh hol
  have HBR:=Jh hbr
  have HXR:=Jh hxr
  clear hol hbr hxr
  by_cases hlt:k<d.procs.length
  ·have HBX:=Jh (HB.out.ext HXR.out)
   have HWR:=Jh (Writes_ok d _ wr ((HF.out.ext HX.out).ext HXR.out) hok HC0.out hlt)
   have hws:=wsM_drop d k hlt
   have hrange:=writesM_range hok HC0.out (p:=(k:Int)) (by simpa using hlt)
   have hlw:=lt_length _ _ (numbersM_lt _ _:(writesM d (k:Int)).Pairwise (·<·)) hrange
   have hen:=HEN.out
   rw [hws,drvs] at hen
   rw [HNB.out] at hrange hlw
   generalize writesM d (k:Int)=l at *
   have HRG:=Jh hrange
   have HEN2:=Jh hen
   clear hws hrange hen HEN
   go_upto_region 9 with (first | ((with_reducible show Jl 26);refine Jm 26 (HBX.out.has) agg_Flat rfl ?_) | (go_at_call 26;refine HWR.out.mono ?_;rintro r w6 ⟨u6,rfl,hr6,hx6⟩))
   obtain ⟨al,bl,ol,cl,rfl,hl1,hl2,hal,hlr⟩:=hr6.cells.open
   have HAL:=Jh hal
   have HLR:=Jh hlr
   have HB6:=Jh (HBR.out.ext hx6)
   have HX6:=Jh (HXR.out.trans hx6)
   have HR6:=Jh hr6
   have hgw:=HBR.out.lt
   clear hr6 hal hlr hx6 HBX HWR HBR HXR
   go_wp2_with fail
   refine wp_loop (fun a wi=>∃ (j:Nat) (y0 y4 y5 y8 y9 y10 y11 y12 y13 y14 y15 y16 y17 y18 y19 y20 y21 y22 y23 y24 y25 y26 y27 y28 y32 y33 y34 y35 y36 y37 y38 y39 y43 y44 y45 y46 y47 y48 y49 y50 y51 y52 y53 y54 y55 y56 y57:Value),a=⟨#[y0,.pointer (some ⟨w.heap.size,0,Option.none⟩),.slice Option.none 0 0,.int .i64 0,y4,y5,.slice (some ⟨g,0,Option.none⟩) nb nb,.int .i64 (k:Int),y8,y9,y10,y11,y12,y13,y14,y15,y16,y17,y18,y19,y20,y21,y22,y23,y24,y25,y26,y27,y28,.slice a0 d.procs.length c0,.int .i64 d.procs.length,.int .i64 (k:Int),y32,y33,y34,y35,y36,y37,y38,y39,.slice al l.length cl,.int .i64 l.length,.int .i64 (j:Int),y43,y44,y45,y46,y47,y48,y49,y50,y51,y52,y53,y54,y55,y56,y57],[]⟩ /\
    j<=l.length/\∃ out:List Int,out.length=nb/\Hid (drvEnd (match drv1 (k:Int) (l.drop j) out with | none=>none | some o=>drvs (k+1) ((wsM d).drop (k+1)) o)=ep)/\Blk wi g (out.map (Value.int .i64)).toArray 3/\w6.grownBy wi (some g)) (fun a _=>l.length-(intOf (a.tmps.getD 42 undef)).toNat)
    ⟨0,_,_,_,_,_,_,_,_,_,_,_,_,_,_,_,_,_,_,_,_,_,_,_,_,_,_,_,_,_,_,_,_,_,_,_,_,_,_,_,_,_,_,_,_,_,_,_,rfl,Nat.zero_le _,out,HOL.out,HEN2,HB6.out,gb_refl _ _⟩ ?_
   clear HEN2 HB6 HOL
   rintro a wi ⟨j,y0,y4,y5,y8,y9,y10,y11,y12,y13,y14,y15,y16,y17,y18,y19,y20,y21,y22,y23,y24,y25,y26,y27,y28,y32,y33,y34,y35,y36,y37,y38,y39,y43,y44,y45,y46,y47,y48,y49,y50,y51,y52,y53,y54,y55,y56,y57,rfl,hj,out',hol,HEN,hbr,hgi⟩
   have HOL:=Jh hol
   have HBR:=Jh hbr
   have HGI:=Jh hgi
   have hx8:Ext w1 wi:=Ext.grown HX6.out hgi hg1
   have HX8:=Jh hx8
   clear hol hbr hgi hx8
   by_cases hjl:j<l.length
   ·obtain rfl:=HAL.out (by omega)
    have hq:=(HLR.out.get (List.getElem?_eq_getElem hjl))
    have hbq:=HRG.out _ (List.getElem_mem hjl)
    have hdr:=HEN.out
    rw [List.drop_eq_getElem_cons hjl,drv1] at hdr
    have hne:bl≠g:=by
     obtain ⟨g',c',he,hge,-⟩:=HR6.out.open1 (by omega)
     injection he with e1
     injection e1 with e1
     injection e1 with e1
     omega
    have yq:=(Has.grown hq HGI.out hne) 0 _ rfl
    simp only [Nat.mul_one,Nat.add_zero] at yq
    generalize l[j]=b at *
    obtain ⟨b',rfl⟩:∃ b':Nat,b=b':=⟨b.toNat,by omega⟩
    have hbo:b'<out'.length:=by rw [HOL.out];omega
    rw [Int.toNat_natCast] at hdr
    rw [List.getD_eq_getElem?_getD,List.getElem?_eq_getElem hbo] at hdr
    simp only [Option.getD_some] at hdr
    have yo:=HBR.out.cell b'
    rw [List.getElem?_toArray,List.getElem?_map,List.getElem?_eq_getElem hbo] at yo
    simp only [Option.map_some] at yo
    have yf:=HBR.out.frozen b'
    generalize out'[b']=ob at *
    by_cases hob:0<=ob
    ·rw [if_pos hob] at hdr
     simp only [drvEnd] at hdr
     have HEN2:=Jh hdr
     clear hdr HEN hq hbo
     go_wp2_with fail
     refine bodyPost_ret (v:=.tuple #[.slice Option.none 0 0,.int .i64 120]) (by simp [results,Tryz.results38,go_sem]) rfl ⟨.slice Option.none 0 0,by rw [<-HEN2.out],by rw [<-HEN2.out];exact IntRow.nil _ _,HX.out.trans HX8.out⟩
    ·rw [if_neg hob] at hdr
     have HEN2:=Jh hdr
     have hb9:=blk_setI HBR.out b' (k:Int)
     have hg9:=gb_trans HGI.out (gb_set wi g b' (.int .i64 (k:Int)))
     have HB9:=Jh hb9
     have HG9:=Jh hg9
     clear hdr HEN hq hbo hb9 hg9
     go_wp2_with fail
     exact ⟨⟨j+1,by omega,by omega,out'.set b' (k:Int),by rw [List.length_set];exact HOL.out,HEN2,HB9.out,HG9.out⟩,by simp [intOf];omega⟩
   ·obtain rfl:j=l.length:=by omega
    have hdr:=HEN.out
    rw [List.drop_length,drv1] at hdr
    have HEN2:=Jh hdr
    clear hdr HEN
    go_wp2_with fail
    exact ⟨⟨k+1,by omega,by omega,out',HOL.out,HEN2,HBR.out,HX8.out⟩,by simp [intOf];omega⟩
  ·obtain rfl:k=d.procs.length:=by omega
   have hen:=HEN.out
   rw [List.drop_of_length_le (by rw [wsM_length];exact Nat.le_refl _),drvs] at hen
   simp only [drvEnd] at hen
   have HEN2:=Jh hen
   clear hen HEN
   go_wp2_with fail
   have e2:=HEN2.out
   have hrow:=IntRow.ofBlk (N:=w.heap.size) HBR.out (by omega) (by rw [HOL.out];omega)
   rw [HOL.out] at hrow
   refine bodyPost_ret (v:=.tuple #[.slice (some ⟨g,0,Option.none⟩) nb nb,.int .i64 0]) (by simp [results,Tryz.results38,go_sem]) rfl ⟨_,by rw [<-e2],by rw [<-e2];exact hrow,HX.out.trans HXR.out⟩
 ·have HC0:=Jh hck
  have hep:=HEP.out
  unfold drvD at hep
  rw [if_neg hck] at hep
  subst hep
  have hbq:(checkM d==0)=false:=by rw [beq_eq_false_iff_ne];exact hck
  clear hck
  go_wp2_with (first | ((with_reducible show Jl 26);refine Jm 26 (HB.out.has) agg_Flat rfl ?_) | (go_at_call 41;refine HCK.out.mono ?_;rintro r w2 ⟨rfl,hx2⟩))
  refine bodyPost_ret (v:=.tuple #[.slice Option.none 0 0,.int .i64 1]) (by simp [results,Tryz.results38,go_sem]) rfl ⟨.slice Option.none 0 0,rfl,IntRow.nil _ _,HX.out.trans hx2⟩
/-! ### marks: of the numbers below n those that a list has -/
def setB (n:Nat) (S:List Int):List Bool:=(List.range n).map fun (i:Nat)=>decide ((i:Int)∈S)
def markedK (bl:List Bool) (k:Nat):List Int:=((List.range k).filter fun i=>bl.getD i false).map fun (i:Nat)=>(i:Int)
/-! ### what a span marks, number by number -/
def numsK (offs:List Int) (s:Span) (k:Nat):List Int:=(List.range k).map fun (j:Nat)=>offs.getD s.sig.toNat 0+(s.lo+(j:Int))
/-! ### all that is marked stands in the design -/
theorem allNums_append (offs:List Int) (xs ys:List Span):allNums offs (xs++ys)=allNums offs xs++allNums offs ys:=by
 unfold allNums;rw [List.map_append,List.flatten_append]
def wsN (ls:List Signal) (op w v sig hi lo n:Int) (ws:List Int):Prop :=
 (op=1/\ws=[]/\1<=w/\w<=64/\holds w v=true/\sig=0/\hi=0/\lo=0/\n=0) \/
 (op=2/\ws=[]/\slice ls sig hi lo=true/\w=hi-lo+1/\v=0/\n=0) \/
 (op=3/\(∃ k,ws=[k])/\0<=sig/\sig<ls.length/\w=1/\v=0/\hi=0/\lo=0/\n=0) \/
 (op=4/\(∃ k,ws=[k]/\(1<=n/\n<=2/\k=w\/3<=n/\n<=5/\w=1\/n=6/\w=1/\k=1))/\v=0/\sig=0/\hi=0/\lo=0) \/
 (op=5/\(∃ j k,ws=[j,k]/\(11<=n/\n<=16/\j=w/\k=w\/17<=n/\n<=18/\j=w\/19<=n/\n<=24/\w=1/\j=k\/25<=n/\n<=26/\w=1/\j=1/\k=1))/\v=0/\sig=0/\hi=0/\lo=0) \/
 (op=6/\ws=[1,w,w]/\v=0/\sig=0/\hi=0/\lo=0/\n=0) \/
 (op=7/\ws≠[]/\w=ws.sum/\w<=64/\v=0/\sig=0/\hi=0/\lo=0/\n=0) \/
 (op=8/\(∃ k,ws=[k]/\(31<=n/\n<=32/\k<=w\/n=33/\w<=k))/\1<=w/\w<=64/\v=0/\sig=0/\hi=0/\lo=0)
def WS (ls:List Signal):E->Prop
 | ⟨op,w,v,sig,hi,lo,n,l⟩=>wsN ls op w v sig hi lo n (l.map (·.w))/\all l
where all:List E->Prop
 | []=>True
 | e::l=>WS ls e/\all l
theorem WS_iff (ls:List Signal) (e:E):WS ls e↔wsN ls e.op e.w e.v e.sig e.hi e.lo e.n (e.l.map (·.w))/\∀ x∈e.l,WS ls x:=by
 have h:∀ l,WS.all ls l↔∀ x∈l,WS ls x:=by
  intro l;induction l with
  | nil=>simp [WS.all]
  | cons x l ih=>simp [WS.all,ih]
 cases e;simp [WS,h]
theorem map1 {α β:Type} {f:α->β} {l:List α} {a:β} (h:l.map f=[a]):∃ x,l=[x]/\f x=a:=by
 cases l with
 | nil=>cases h
 | cons x l=>simp at h;exact ⟨x,by rw [h.2],h.1⟩
theorem map2 {α β:Type} {f:α->β} {l:List α} {a b:β} (h:l.map f=[a,b]):∃ x y,l=[x,y]/\f x=a/\f y=b:=by
 cases l with
 | nil=>cases h
 | cons x l =>
  simp only [List.map_cons,List.cons.injEq] at h
  obtain ⟨y,rfl,h2⟩:=map1 h.2
  exact ⟨x,y,rfl,h.1,h2⟩
theorem map3 {α β:Type} {f:α->β} {l:List α} {a b c:β} (h:l.map f=[a,b,c]):∃ x y z,l=[x,y,z]/\f x=a/\f y=b/\f z=c:=by
 cases l with
 | nil=>cases h
 | cons x l =>
  simp only [List.map_cons,List.cons.injEq] at h
  obtain ⟨y,z,rfl,h2,h3⟩:=map2 h.2
  exact ⟨x,y,z,rfl,h.1,h2,h3⟩
theorem own_cat_sum (l:List E) (h:∀ x∈l,own x=x.w/\1<=x.w):∀ n,own.cat l n=n+(l.map (·.w)).sum:=by
 induction l with
 | nil=>intro n;simp [own.cat]
 | cons x l ih =>
  intro n
  have hx:=h x (by simp)
  rw [own.cat,if_neg (by omega),ih (fun y hy=>h y (by simp [hy]))]
  simp only [List.map_cons,List.sum_cons]
  omega
theorem sum_pos (l:List E) (h:∀ x∈l,1<=x.w):(l.length:Int)<=(l.map (·.w)).sum:=by
 induction l with
 | nil=>simp
 | cons x l ih =>
  have:=h x (by simp)
  have:=ih fun y hy=>h y (by simp [hy])
  simp only [List.map_cons,List.sum_cons,List.length_cons]
  omega
theorem ws_own {ls:List Signal} (hls:∀ x∈ls,x.w<=64) (e:E):WS ls e->own e=e.w/\1<=e.w/\e.w<=64:=by
 induction e using E.ind with
 | h e ih =>
  intro h
  obtain ⟨h0,hp⟩:=(WS_iff ls e).1 h
  have ih2:=fun x hx=>ih x hx (hp x hx)
  clear ih hp h
  rw [own_eq]
  obtain ⟨op,w,v,sig,hi,lo,n,l⟩:=e
  simp only at h0 ih2 ⊢
  rcases h0 with ⟨rfl,-,h1,h2,-⟩ | ⟨rfl,-,h1,h2,-⟩ | ⟨rfl,⟨k,hk⟩,-,-,rfl,-⟩ | ⟨rfl,⟨k,hk,h1⟩,-⟩ | ⟨rfl,⟨j,k,hk,h1⟩,-⟩ | ⟨rfl,hk,-⟩ | ⟨rfl,h1,h2,h3,-⟩ | ⟨rfl,⟨k,hk,h1⟩,h2,h3,-⟩
  ·simp;omega
  ·have:=slice_le ls hls h1
   have:=sigW_le ls hls sig
   simp;omega
  ·simp
  ·obtain ⟨x,rfl,rfl⟩:=map1 hk
   have:=ih2 x (by simp)
   rcases h1 with ⟨a1,a2,a3⟩ | ⟨a1,a2,a3⟩ | ⟨rfl,a2,a3⟩
   ·simp [a2,own.hd];omega
   ·simp [show ¬ n<=2 by omega];omega
   ·simp;omega
  ·obtain ⟨x,y,rfl,rfl,rfl⟩:=map2 hk
   have hx:=ih2 x (by simp)
   have hy:=ih2 y (by simp)
   rcases h1 with ⟨a1,a2,a3,a4⟩ | ⟨a1,a2,a3⟩ | ⟨a1,a2,a3,a4⟩ | ⟨a1,a2,a3,a4⟩
   ·simp [a2,own.fst,show ¬ own x=0 by omega];omega
   ·simp [show ¬ n<=16 by omega,a2,own.hd];omega
   ·simp [show ¬ n<=16 by omega,show ¬ n<=18 by omega];omega
   ·simp [show ¬ n<=16 by omega,show ¬ n<=18 by omega];omega
  ·obtain ⟨c,x,y,rfl,hc,hx,hy⟩:=map3 hk
   have:=ih2 x (by simp)
   simp [own.fst2,own.fst,show ¬ own x=0 by omega];omega
  ·have hs:=sum_pos l (fun x hx=>(ih2 x hx).2.1)
   have hl:0<l.length:=by cases l with
    | nil=>exact absurd rfl h1
    | cons=>simp
   simp
   rw [own_cat_sum l (fun x hx=>⟨(ih2 x hx).1,(ih2 x hx).2.1⟩)]
   omega
  ·simp;omega
theorem sizeL_rep0 (l:List E) (h:∀ x∈l,sizeE x 0=.ok x):sizeE.sizeL l (List.replicate l.length 0)=.ok l:=by
 induction l with
 | nil=>rfl
 | cons x l ih =>
  simp only [List.length_cons,List.replicate_succ,sizeE.sizeL,List.headD_cons,List.tail_cons,h x (by simp),ih (fun y hy=>h y (by simp [hy]))]
theorem sizeL_inv {x y:E} {l r:List E} {ps:List Int} (h:sizeE.sizeL (x::l) ps=.ok (y::r)):sizeE x (ps.headD 0)=.ok y/\sizeE.sizeL l ps.tail=.ok r:=by
 rw [sizeE.sizeL] at h
 cases hx:sizeE x (ps.headD 0) with
 | error f=>simp only [hx] at h;cases h
 | ok x' =>
  simp only [hx] at h
  cases hl:sizeE.sizeL l ps.tail with
  | error f=>simp only [hl] at h;cases h
  | ok r' =>
   simp only [hl] at h
   injection h with h
   injection h with h1 h2
   rw [h1,h2];exact ⟨rfl,rfl⟩
theorem sizeL_rep_inv (k:Int) (l:List E) (h:sizeE.sizeL l (List.replicate l.length k)=.ok l):∀ x∈l,sizeE x k=.ok x:=by
 induction l with
 | nil=>simp
 | cons x l ih =>
  obtain ⟨h1,h2⟩:=sizeL_inv h
  simp only [List.length_cons,List.replicate_succ,List.headD_cons,List.tail_cons] at h1 h2
  intro y hy
  cases hy with
  | head=>exact h1
  | tail _ hy=>exact ih h2 y hy
theorem ws_size {ls:List Signal} (hls:∀ x∈ls,x.w<=64) (e:E):WS ls e->∀ p,(p=0\/p=e.w\/p = -1/\e.w=1)->sizeE e p=.ok e:=by
 induction e using E.ind with
 | h e ih =>
  intro h p hpp
  have ho:=ws_own hls e h
  have hop:=fun x hx=>ws_own hls x (((WS_iff ls e).1 h).2 x hx)
  obtain ⟨h0,hp⟩:=(WS_iff ls e).1 h
  have ih2:=fun x hx=>ih x hx (hp x hx)
  clear ih hp h
  have hw2:told (if p = -1 then 1 else p) (told (own e) 32)=e.w:=by
   rw [ho.1]
   unfold told
   rcases hpp with rfl | rfl | ⟨rfl,h1⟩
   ·simp [show ¬ e.w=0 by omega]
   ·rw [if_neg (by omega),if_neg (by omega)]
   ·simp [h1]
  rw [sizeE_eq,hw2,if_neg (by rintro ⟨rfl,h1⟩;rcases hpp with h2 | h2 | h2<;>omega),if_neg (by omega)]
  clear hw2 hpp
  have ho1:=ho.1
  rw [own_eq] at ho1
  obtain ⟨op,w,v,sig,hi,lo,n,l⟩:=e
  simp only at h0 ih2 ho ho1 hop ⊢
  have hl0:sizeE.sizeL l (List.replicate l.length 0)=.ok l:=sizeL_rep0 l fun x hx=>ih2 x hx 0 (.inl rfl)
  rcases h0 with ⟨rfl,hk,h1,h2,-⟩ | ⟨rfl,hk,h1,h2,-⟩ | ⟨rfl,⟨k,hk⟩,-,-,rfl,-⟩ | ⟨rfl,⟨k,hk,h1⟩,-⟩ | ⟨rfl,⟨j,k,hk,h1⟩,-⟩ | ⟨rfl,hk,-⟩ | ⟨rfl,h1,h2,h3,-⟩ | ⟨rfl,⟨k,hk,h1⟩,h2,h3,-⟩
  ·simp [wantedL,ho.1,hl0]
  ·simp [wantedL,ho.1,hl0]
  ·simp [wantedL,ho.1,hl0]
  ·obtain ⟨x,rfl,rfl⟩:=map1 hk
   have hx:=ih2 x (by simp)
   rcases h1 with ⟨a1,a2,a3⟩ | ⟨a1,a2,a3⟩ | ⟨rfl,a2,a3⟩
   ·have:n=1\/n=2:=by omega
    rcases this with rfl | rfl<;>simp [wantedL,sizeE.sizeL,hx w (by omega)]
   ·have:n=3\/n=4\/n=5:=by omega
    rcases this with rfl | rfl | rfl<;>simp [wantedL,sizeE.sizeL,a3,hx 0 (by simp)]
   ·simp [wantedL,sizeE.sizeL,a2,hx (-1) (by omega)]
  ·obtain ⟨x,y,rfl,rfl,rfl⟩:=map2 hk
   have hx:=ih2 x (by simp)
   have hy:=ih2 y (by simp)
   have ox:=hop x (by simp)
   rcases h1 with ⟨a1,a2,a3,a4⟩ | ⟨a1,a2,a3⟩ | ⟨a1,a2,a3,a4⟩ | ⟨a1,a2,a3,a4,a5⟩
   ·have:n=11\/n=12\/n=13\/n=14\/n=15\/n=16:=by omega
    rcases this with rfl | rfl | rfl | rfl | rfl | rfl<;>simp [wantedL,sizeE.sizeL,List.replicate,hx w (by omega),hy w (by omega)]
   ·have:n=17\/n=18:=by omega
    rcases this with rfl | rfl<;>simp [wantedL,sizeE.sizeL,List.replicate,hx w (by omega),hy 0 (by omega)]
   ·have ht:told (own.fst [x,y]) 32=x.w:=by
     simp only [own.fst,ox.1]
     rw [if_neg (by omega)];unfold told;rw [if_neg (by omega)]
    have:n=19\/n=20\/n=21\/n=22\/n=23\/n=24:=by omega
    rcases this with rfl | rfl | rfl | rfl | rfl | rfl<;>simp [wantedL,sizeE.sizeL,List.replicate,ht,a3,hx x.w (by simp),hy x.w (by omega)]
   ·have:n=25\/n=26:=by omega
    rcases this with rfl | rfl<;>simp [wantedL,sizeE.sizeL,List.replicate,a3,hx (-1) (by omega),hy (-1) (by omega)]
  ·obtain ⟨c,x,y,rfl,hc,hx,hy⟩:=map3 hk
   simp [wantedL,sizeE.sizeL,List.replicate,ih2 c (by simp) (-1) (by omega),ih2 x (by simp) w (by omega),ih2 y (by simp) w (by omega)]
  ·simp [wantedL,ho.1,hl0,show ¬ w=0 by omega,show ¬ 64<w by omega]
  ·obtain ⟨x,rfl,rfl⟩:=map1 hk
   have hl1:sizeE.sizeL [x] [0]=.ok [x]:=hl0
   simp [wantedL,ho.1,hl1,sizeE.hdW]
   omega
theorem ws_of_size {ls:List Signal} (hls:∀ x∈ls,x.w<=64) (e:E):shape ls e=true->∀ p,-1<=p->sizeE e p=.ok e->WS ls e/\e.w=told (if p = -1 then 1 else p) (told (own e) 32):=by
 induction e using E.ind with
 | h e ih =>
  intro hs p hpp h
  have hok:=ownOk_of_shape ls hls e hs
  have hon:=(own_le e hok).1
  rw [shape_eq,Bool.and_eq_true,List.all_eq_true] at hs
  obtain ⟨hs0,hsp⟩:=hs
  have ih2:=fun x hx=>ih x hx (hsp x hx)
  have hpos:1<=told (if p = -1 then 1 else p) (told (own e) 32):=by
   unfold told
   repeat' split
   all_goals omega
  have ho:=own_eq e
  have hokp:=fun x hx=>(own_le x (((OwnOk_iff e).1 hok).2.2.2 x hx)).1
  rw [sizeE_eq] at h
  clear hok
  generalize told (if p = -1 then 1 else p) (told (own e) 32)=w2 at *
  clear ih
  split at h
  ·cases h
  ·split at h
   ·rename_i h2
    split at h
    ·injection h with h
     have:=congrArg E.w h
     simp only at this
     omega
    ·cases h
   ·split at h
    ·cases h
    ·rename_i ps hps
     split at h
     ·cases h
     ·rename_i l' hl'
      split at h
      ·cases h
      ·rename_i hext
       injection h with h
       have hw:=congrArg E.w h
       have hl:=congrArg E.l h
       simp only at hw hl
       subst hl
       subst hw
       refine ⟨(WS_iff ls e).2 ?_,rfl⟩
       clear h
       obtain ⟨op,w,v,sig,hi,lo,n,l⟩:=e
       simp only at *
       have all0:ps=List.replicate l.length 0->∀ x∈l,WS ls x:=fun hq x hx=>(ih2 x hx 0 (by omega) (sizeL_rep_inv 0 l (by rw [<-hq];exact hl') x hx)).1
       have t0:∀ x∈l,∀ k,-1<=k->k≠0->sizeE x k=.ok x->WS ls x/\x.w=if k = -1 then 1 else k:=fun x hx k hk hk0 hq=>by
        obtain ⟨q1,q2⟩:=ih2 x hx k hk hq
        refine ⟨q1,?_⟩
        rw [q2];unfold told
        rw [if_neg (by split<;>omega)]
       have ihz:=ih2
       clear ih2
       unfold shape0 at hs0
       repeat' split at hs0
       all_goals try simp only [Bool.and_eq_true,Bool.or_eq_true,decide_eq_true_eq] at hs0
       ·rename_i o;subst o
        obtain rfl:l=[]:=List.eq_nil_of_length_eq_zero (by omega)
        exact ⟨.inl ⟨rfl,rfl,hpos,by omega,hs0.1.2.resolve_left (by omega),by omega,by omega,by omega,by omega⟩,by simp⟩
       ·rename_i o;subst o
        obtain rfl:l=[]:=List.eq_nil_of_length_eq_zero (by omega)
        simp [wantedL,ho] at hps
        exact ⟨.inr (.inl ⟨rfl,rfl,hs0.1.2,by omega,by omega,by omega⟩),by simp⟩
       ·rename_i o;subst o
        obtain ⟨x,rfl⟩:=List.length_eq_one_iff.1 hs0.1.1.1
        simp [wantedL,ho] at hps
        exact ⟨.inr (.inr (.inl ⟨rfl,⟨x.w,rfl⟩,by omega,by omega,by omega,by omega,by omega,by omega,by omega⟩)),all0 (by rw [<-hps.2];rfl)⟩
       ·rename_i o;subst o
        obtain ⟨x,rfl⟩:=List.length_eq_one_iff.1 hs0.1.1.1
        have:n=1\/n=2\/n=3\/n=4\/n=5\/n=6:=by omega
        have hz:v=0/\sig=0/\hi=0/\lo=0:=by omega
        have hx:=fun k h1 h2=>t0 x (by simp) k h1 h2
        have hx0:=fun h=>all0 h x (by simp)
        rcases this with rfl | rfl | rfl | rfl | rfl | rfl<;>simp [wantedL] at hps
        ·subst hps;obtain ⟨q1,-⟩:=sizeL_inv hl';simp only [List.headD_cons] at q1
         obtain ⟨q2,q3⟩:=hx _ (by omega) (by omega) q1
         exact ⟨.inr (.inr (.inr (.inl ⟨rfl,⟨x.w,rfl,.inl ⟨by decide,by decide,by rw [q3,if_neg (by omega)]⟩⟩,hz⟩))),by simpa using q2⟩
        ·subst hps;obtain ⟨q1,-⟩:=sizeL_inv hl';simp only [List.headD_cons] at q1
         obtain ⟨q2,q3⟩:=hx _ (by omega) (by omega) q1
         exact ⟨.inr (.inr (.inr (.inl ⟨rfl,⟨x.w,rfl,.inl ⟨by decide,by decide,by rw [q3,if_neg (by omega)]⟩⟩,hz⟩))),by simpa using q2⟩
        ·exact ⟨.inr (.inr (.inr (.inl ⟨rfl,⟨x.w,rfl,.inr (.inl ⟨by decide,by decide,hps.1⟩)⟩,hz⟩))),by simpa using hx0 (by rw [<-hps.2];rfl)⟩
        ·exact ⟨.inr (.inr (.inr (.inl ⟨rfl,⟨x.w,rfl,.inr (.inl ⟨by decide,by decide,hps.1⟩)⟩,hz⟩))),by simpa using hx0 (by rw [<-hps.2];rfl)⟩
        ·exact ⟨.inr (.inr (.inr (.inl ⟨rfl,⟨x.w,rfl,.inr (.inl ⟨by decide,by decide,hps.1⟩)⟩,hz⟩))),by simpa using hx0 (by rw [<-hps.2];rfl)⟩
        ·obtain ⟨rfl,rfl⟩:=hps;obtain ⟨q1,-⟩:=sizeL_inv hl';simp only [List.headD_cons] at q1
         obtain ⟨q2,q3⟩:=hx _ (by omega) (by omega) q1
         exact ⟨.inr (.inr (.inr (.inl ⟨rfl,⟨x.w,rfl,.inr (.inr ⟨rfl,rfl,by rw [q3];rfl⟩)⟩,hz⟩))),by simpa using q2⟩
       ·rename_i o;subst o
        obtain ⟨x,y,rfl⟩:∃ x y,l=[x,y]:=by
         match l,hs0.1.1.1 with
         | [x,y],_=>exact ⟨x,y,rfl⟩
        have hz:v=0/\sig=0/\hi=0/\lo=0:=by omega
        have hwl:(11<=n/\n<=16/\ps=[w,w])\/(17<=n/\n<=18/\ps=[w,0])\/(19<=n/\n<=24/\w=1/\ps=[told (own.fst [x,y]) 32,told (own.fst [x,y]) 32])\/(25<=n/\n<=26/\w=1/\ps=[-1,-1]):=by
         unfold wantedL at hps
         simp only at hps
         repeat' split at hps
         all_goals simp [List.replicate] at hps
         all_goals try omega
         all_goals subst hps
         ·exact .inr (.inr (.inr ⟨by omega,by omega,by omega,rfl⟩))
         ·exact .inr (.inr (.inl ⟨by omega,by omega,by omega,rfl⟩))
         ·exact .inr (.inl ⟨by omega,by omega,rfl⟩)
         ·exact .inl ⟨by omega,by omega,rfl⟩
         ·rename_i q1 q2;exact absurd (Or.inr trivial) q1
        have hx:=fun k h1 h2=>t0 x (by simp) k h1 h2
        have hy:=fun k h1 h2=>t0 y (by simp) k h1 h2
        have hxo:=hokp x (by simp)
        have hyo:=hokp y (by simp)
        obtain ⟨q1,q2⟩:sizeE x (ps.headD 0)=.ok x/\sizeE y (ps.tail.headD 0)=.ok y:=by
         obtain ⟨q1,q2⟩:=sizeL_inv hl'
         exact ⟨q1,(sizeL_inv q2).1⟩
        rcases hwl with ⟨a1,a2,rfl⟩ | ⟨a1,a2,rfl⟩ | ⟨a1,a2,a3,rfl⟩ | ⟨a1,a2,a3,rfl⟩
        all_goals simp only [List.headD_cons,List.tail_cons] at q1 q2
        ·obtain ⟨b1,b2⟩:=hx _ (by omega) (by omega) q1
         obtain ⟨c1,c2⟩:=hy _ (by omega) (by omega) q2
         rw [if_neg (by omega)] at b2 c2
         exact ⟨.inr (.inr (.inr (.inr (.inl ⟨rfl,⟨x.w,y.w,rfl,.inl ⟨a1,a2,b2,c2⟩⟩,hz⟩)))),by simp;exact ⟨b1,c1⟩⟩
        ·obtain ⟨b1,b2⟩:=hx _ (by omega) (by omega) q1
         rw [if_neg (by omega)] at b2
         exact ⟨.inr (.inr (.inr (.inr (.inl ⟨rfl,⟨x.w,y.w,rfl,.inr (.inl ⟨a1,a2,b2⟩)⟩,hz⟩)))),by simp;exact ⟨b1,(ihz y (by simp) 0 (by omega) q2).1⟩⟩
        ·have hk:told (own.fst [x,y]) 32≠0/\-1<=told (own.fst [x,y]) 32:=by
          unfold told;simp only [own.fst];repeat' split
          all_goals omega
         obtain ⟨b1,b2⟩:=hx _ hk.2 hk.1 q1
         obtain ⟨c1,c2⟩:=hy _ hk.2 hk.1 q2
         exact ⟨.inr (.inr (.inr (.inr (.inl ⟨rfl,⟨x.w,y.w,rfl,.inr (.inr (.inl ⟨a1,a2,a3,b2.trans c2.symm⟩))⟩,hz⟩)))),by simp;exact ⟨b1,c1⟩⟩
        ·obtain ⟨b1,b2⟩:=hx _ (by simp) (by simp) q1
         obtain ⟨c1,c2⟩:=hy _ (by simp) (by simp) q2
         exact ⟨.inr (.inr (.inr (.inr (.inl ⟨rfl,⟨x.w,y.w,rfl,.inr (.inr (.inr ⟨a1,a2,a3,b2,c2⟩))⟩,hz⟩)))),by simp;exact ⟨b1,c1⟩⟩
       ·rename_i o;subst o
        obtain ⟨c,x,y,rfl⟩:∃ c x y,l=[c,x,y]:=by
         match l,hs0.1 with
         | [c,x,y],_=>exact ⟨c,x,y,rfl⟩
        simp [wantedL,List.replicate] at hps
        subst hps
        obtain ⟨q1,q⟩:=sizeL_inv hl'
        obtain ⟨q2,q⟩:=sizeL_inv q
        obtain ⟨q3,-⟩:=sizeL_inv q
        simp only [List.headD_cons,List.tail_cons] at q1 q2 q3
        obtain ⟨a1,a2⟩:=t0 c (by simp) _ (by omega) (by omega) q1
        obtain ⟨b1,b2⟩:=t0 x (by simp) _ (by omega) (by omega) q2
        obtain ⟨c1,c2⟩:=t0 y (by simp) _ (by omega) (by omega) q3
        rw [if_neg (by omega)] at b2 c2
        exact ⟨.inr (.inr (.inr (.inr (.inr (.inl ⟨rfl,by simp [a2,b2,c2],by omega,by omega,by omega,by omega,by omega⟩))))),by simp;exact ⟨a1,b1,c1⟩⟩
       ·rename_i o;subst o
        simp [wantedL] at hps
        obtain ⟨h1,h2⟩:=hps
        have hall:=all0 h2.symm
        have hcs:=own_cat_sum l (fun x hx=>⟨(ws_own hls x (hall x hx)).1,(ws_own hls x (hall x hx)).2.1⟩) 0
        have hl1:0<l.length:=hs0.1
        simp at ho
        exact ⟨.inr (.inr (.inr (.inr (.inr (.inr (.inl ⟨rfl,by intro h;simp at h;rw [h] at hl1;simp at hl1,by omega,by omega,by omega,by omega,by omega,by omega,by omega⟩)))))),hall⟩
       ·rename_i o;subst o
        obtain ⟨x,rfl⟩:=List.length_eq_one_iff.1 hs0.1.1.1.1.1
        simp [wantedL,ho] at hps
        simp [sizeE.hdW] at hext
        exact ⟨.inr (.inr (.inr (.inr (.inr (.inr (.inr ⟨rfl,⟨x.w,rfl,by omega⟩,by omega,by omega,by omega,by omega,by omega,by omega⟩)))))),all0 (by rw [<-hps];rfl)⟩
       ·cases hs0
def b2n (b:Bool):Nat:=if b=true then 1 else 0
def popN (v:Nat):Nat:=((List.range 64).filter fun i=>v.testBit i).length
def unM (op:Int) (w v:Nat):Nat :=
 if op=1 then 2^w-1-v
 else if op=2 then (2^w-v)%2^w
 else if op=3 then b2n (decide (v=2^w-1))
 else if op=4 then b2n (decide (v≠0))
 else if op=5 then popN v%2
 else b2n (decide (v=0))
def binM (op:Int) (w a b:Nat):Nat :=
 if op=11\/op=25 then a &&& b
 else if op=12\/op=26 then a ||| b
 else if op=13 then a ^^^ b
 else if op=14 then (a+b)%2^w
 else if op=15 then (a+2^w-b)%2^w
 else if op=16 then a*b%2^w
 else if op=17 then a*2^b%2^w
 else if op=18 then a / 2^b
 else if op=19 then b2n (decide (a=b))
 else if op=20 then b2n (decide (a≠b))
 else if op=21 then b2n (decide (a<b))
 else if op=22 then b2n (decide (a<=b))
 else if op=23 then b2n (decide (b<a))
 else b2n (decide (b<=a))
def extN (op:Int) (w wa a:Nat):Nat :=
 if op=32/\2^(wa-1)<=a then a+(2^w-2^wa) else if op=33 then a%2^w else a
def catM:List (Int × Nat)->Nat->Nat
 | [],acc=>acc
 | p::l,acc=>catM l (acc*2^p.1.toNat+p.2)
def evNode (vs:List Nat) (op w v sig hi lo n:Int) (ws:List Int) (xs:List Nat):Nat :=
 if op=1 then v.toNat
 else if op=2 then vs.getD sig.toNat 0 / 2^lo.toNat%2^(hi-lo+1).toNat
 else if op=3 then vs.getD sig.toNat 0 / 2^xs.getD 0 0%2
 else if op=4 then unM n (ws.getD 0 0).toNat (xs.getD 0 0)
 else if op=5 then binM n (ws.getD 0 0).toNat (xs.getD 0 0) (xs.getD 1 0)
 else if op=6 then if xs.getD 0 0=1 then xs.getD 1 0 else xs.getD 2 0
 else if op=7 then catM (ws.zip xs) 0
 else extN n w.toNat (ws.getD 0 0).toNat (xs.getD 0 0)
def evM (vs:List Nat):E->Nat
 | ⟨op,w,v,sig,hi,lo,n,l⟩=>evNode vs op w v sig hi lo n (l.map (·.w)) (evs l)
where evs:List E->List Nat
 | []=>[]
 | e::l=>evM vs e::evs l
theorem evM_eq (vs:List Nat) (e:E):evM vs e=evNode vs e.op e.w e.v e.sig e.hi e.lo e.n (e.l.map (·.w)) (e.l.map (evM vs)):=by
 have h:∀ l,evM.evs vs l=l.map (evM vs):=by
  intro l
  induction l with
  | nil=>rfl
  | cons x l ih=>rw [evM.evs,ih];rfl
 cases e
 rw [evM,h]
theorem b2n_lt (b:Bool):b2n b<2:=by cases b<;>decide
theorem unM_lt {op:Int} {w v:Nat} (hv:v<2^w) (h:op≠1->op≠2->1<=w):unM op w v<2^w:=by
 have h0:=Nat.two_pow_pos w
 have h2:op≠1->op≠2->2<=2^w:=fun ho hp=>Nat.le_trans (by decide:2<=2^1) (Nat.pow_le_pow_right (by decide) (h ho hp))
 unfold unM
 by_cases o1:op=1
 ·rw [if_pos o1];omega
 ·rw [if_neg o1]
  by_cases o2:op=2
  ·rw [if_pos o2];exact Nat.mod_lt _ h0
  ·rw [if_neg o2]
   have:=h2 o1 o2
   repeat' split
   all_goals first | (have:=b2n_lt (decide (v=2^w-1));omega) | (have:=b2n_lt (decide (v≠0));omega) | (have:=Nat.mod_lt (popN v) (by decide:0<2);omega) | (have:=b2n_lt (decide (v=0));omega)
theorem binM_lt {op:Int} {w a b:Nat} (ha:a<2^w) (hb:op≠17->op≠18->b<2^w) (hw:1<=w):binM op w a b<2^w:=by
 have h0:=Nat.two_pow_pos w
 have h2:2<=2^w:=Nat.le_trans (by decide:2<=2^1) (Nat.pow_le_pow_right (by decide) hw)
 have hc:∀ c:Bool,b2n c<2^w:=fun c=>Nat.lt_of_lt_of_le (b2n_lt c) h2
 unfold binM
 by_cases c0:op=11\/op=25
 ·rw [if_pos c0];exact Nat.and_lt_two_pow _ (hb (by omega) (by omega))
 rw [if_neg c0]
 by_cases c1:op=12\/op=26
 ·rw [if_pos c1];exact Nat.or_lt_two_pow ha (hb (by omega) (by omega))
 rw [if_neg c1]
 by_cases c2:op=13
 ·rw [if_pos c2];exact Nat.xor_lt_two_pow ha (hb (by omega) (by omega))
 rw [if_neg c2]
 by_cases c3:op=14
 ·rw [if_pos c3];exact Nat.mod_lt _ h0
 rw [if_neg c3]
 by_cases c4:op=15
 ·rw [if_pos c4];exact Nat.mod_lt _ h0
 rw [if_neg c4]
 by_cases c5:op=16
 ·rw [if_pos c5];exact Nat.mod_lt _ h0
 rw [if_neg c5]
 by_cases c6:op=17
 ·rw [if_pos c6];exact Nat.mod_lt _ h0
 rw [if_neg c6]
 by_cases c7:op=18
 ·rw [if_pos c7];exact Nat.lt_of_le_of_lt (Nat.div_le_self _ _) ha
 rw [if_neg c7]
 by_cases c8:op=19
 ·rw [if_pos c8];exact hc _
 rw [if_neg c8]
 by_cases c9:op=20
 ·rw [if_pos c9];exact hc _
 rw [if_neg c9]
 by_cases c10:op=21
 ·rw [if_pos c10];exact hc _
 rw [if_neg c10]
 by_cases c11:op=22
 ·rw [if_pos c11];exact hc _
 rw [if_neg c11]
 by_cases c12:op=23
 ·rw [if_pos c12];exact hc _
 rw [if_neg c12]
 exact hc _
theorem extN_lt {op:Int} {w wa a:Nat} (ha:a<2^wa) (h0:1<=wa) (h:op≠33->wa<=w):extN op w wa a<2^w:=by
 unfold extN
 by_cases c0:op=32/\2^(wa-1)<=a
 ·rw [if_pos c0]
  have:=Nat.pow_le_pow_right (n:=2) (by decide) (h (by omega))
  omega
 rw [if_neg c0]
 by_cases c1:op=33
 ·rw [if_pos c1];exact Nat.mod_lt _ (Nat.two_pow_pos w)
 rw [if_neg c1]
 exact Nat.lt_of_lt_of_le ha (Nat.pow_le_pow_right (by decide) (h c1))
theorem catM_lt (l:List (Int × Nat)):∀ acc k,acc<2^k->(∀ p∈l,p.2<2^p.1.toNat)->catM l acc<2^(k+(l.map fun p=>p.1.toNat).sum):=by
 induction l with
 | nil=>intro acc k h _;simpa [catM] using h
 | cons p l ih =>
  intro acc k h hp
  rw [catM]
  have h1:=hp p (by simp)
  have h2:acc*2^p.1.toNat+p.2<2^(k+p.1.toNat):=by
   rw [Nat.pow_add]
   have:(acc+1)*2^p.1.toNat<=2^k*2^p.1.toNat:=Nat.mul_le_mul_right _ h
   rw [Nat.add_mul] at this
   omega
  have:=ih _ _ h2 (fun q hq=>hp q (by simp [hq]))
  rw [List.map_cons,List.sum_cons,<-Nat.add_assoc]
  exact this
end Go.Proofs.YtoaamjgfhppppaaGreat
