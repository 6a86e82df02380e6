/- Laws and walks that a claim of this seat leans on: Mark3, Mark4, Mark5. -/
import Derived.Test.YthpemngachlehaaGreatY16
import Derived.Test.YthpemngachlehaaGreatY15
import Derived.Test.YthpemngachlehaaGreatY00
set_option linter.all false
namespace Go.Proofs.YthpemngachlehaaGreat
open Go.RowKit
def nB (d:Flat):Nat:=(nBits d).toNat
theorem spanR (ls:List Signal) (hw:∀ x ∈ ls,1 ≤ x.w∧x.w ≤ 64) {s:Span} (h:SpanD ls s) {n:Nat} (hn:n=(sumW ls ls.length).toNat):∀ j:Int,s.lo ≤ j→j ≤ s.hi→0 ≤ (offsM ls ls.length).getD s.sig.toNat 0 + j∧(offsM ls ls.length).getD s.sig.toNat 0 + j < n:=by
 intro j h1 h2
 have:=allNums_range ls (xs:=[s]) (fun x hx=>by rw [List.mem_singleton.1 hx];exact h) hw ((offsM ls ls.length).getD s.sig.toNat 0 + j) (by
  unfold allNums
  simp only [List.map_cons,List.map_nil,List.flatten_cons,List.flatten_nil,List.append_nil]
  exact (mem_numsOf _ _ _).2 ⟨j,h1,h2,rfl⟩)
 omega
theorem allNums_one (offs:List Int) (s:Span):allNums offs [s]=numsOf offs s:=by unfold allNums;simp
/-! ### filigreeref11.readE -/
def ReadESaid (d:Flat) (e:E):Prop:=∀ (S:List Int) (iv fv ov:Value) (cs:List Value) (w:World),Bools w iv (setB (nB d) S)→FlatV w fv d→Ints w ov (offsD d)→VE w cs e →
 Calls Tryz.prog 132 #[iv,fv,ov,.agg cs.toArray] w fun r w'=>∃ u,r=.returned u∧Bools w' u (setB (nB d) (S ++ allNums (offsD d) (partsE d.signals e)))∧Ext w w'
set_option maxRecDepth 100000 in
set_option maxHeartbeats 8000000 in
theorem readE_calls {d:Flat} (hok:d.ok) (hck:checkM d=0) (e:E):shape d.signals e=true→nodes e ≤ 1048576→ReadESaid d e:=by
 induction e using E.ind with
 | h e ih =>
 intro hsh hnb S iv fv ov cs w hI hF hO hV
 have hw:=checkM_w hck
 have hnB:=nBits_le hok hck
 have hob:=offsM_bound d.signals hw hok.signals
 have hnn:nB d ≤ 1073741824:=by unfold nB;omega
 have hpar:∀ x ∈ e.l,ReadESaid d x:=fun x hx=>ih x hx (by rw [shape_eq,Bool.and_eq_true] at hsh;exact List.all_eq_true.1 hsh.2 x hx) (by rw [nodes_eq] at hnb;have:=le_sumBy nodes e.l _ hx;omega)
 have IH:=Lib.hid hpar
 obtain ⟨pre,hpre0,hpreS,hpreL⟩ : ∃ pre:Nat→List Span,pre 0=spans0 d.signals e.op e.sig e.hi e.lo∧(∀ k (hk:k < e.l.length),pre (k + 1)=pre k ++ partsE d.signals e.l[k])∧pre e.l.length=partsE d.signals e :=
  ⟨fun k=>spans0 d.signals e.op e.sig e.hi e.lo ++ ((e.l.take k).map (partsE d.signals)).flatten,by simp only [List.take_zero,List.map_nil,List.flatten_nil,List.append_nil],fun k hk=>by simp only [take_snoc _ _ hk,List.map_append,List.flatten_append,List.map_cons,List.map_nil,List.flatten_cons,List.flatten_nil,List.append_nil,List.append_assoc],by simp only [List.take_length];rw [partsE_eq d.signals e]⟩
 have hs0:∀ s ∈ spans0 d.signals e.op e.sig e.hi e.lo,NumOk (offsD d) s∧SpanD d.signals s:=fun s hs =>
  ⟨partsE_ok d.signals hw e hsh s (by rw [partsE_eq];exact List.mem_append_left _ hs),partsE_span d.signals e hsh s (by rw [partsE_eq];exact List.mem_append_left _ hs)⟩
 have hlen:e.l.length ≤ 1048576:=by rw [nodes_eq] at hnb;have:=length_le_sumBy nodes e.l fun t _=>nodes_pos t;omega
 have HP0:=Lib.hid hpre0
 have HPS:=Lib.hid hpreS
 have HPL:=Lib.hid hpreL
 have HFV:=Lib.hid hF
 have HOV:=Lib.hid hO
 have HIV:=Lib.hid hI
 have hone:=hI.one
 have hone2:=hO.one
 have HSC:=Lib.hid (fun (s:Span) (hs:s ∈ spans0 d.signals e.op e.sig e.hi e.lo) (iv:Value) W (hx:Ext w W) (hI:Bools W iv (setB (nB d) S))=>span_calls (nB d) S (offsD d) s iv ov W hI (hO.ext hx) hnn (hs0 s hs).1 (spanR d.signals hw (hs0 s hs).2 rfl) hob)
 have HS0:=Lib.hid hs0
 have HNS:=Lib.hid hok.signals
 have HW:=Lib.hid hw
 obtain ⟨sv,pv,cv,rfl,hS,-,-⟩:=hF
 obtain ⟨a1,b1,o1,c1,rfl,hd1,hd2,ha1,hr1⟩:=hS.open
 have HA1:=Lib.hid ha1
 have HR1:=Lib.hid hr1
 obtain ⟨s,rfl,hs⟩:=hV
 obtain ⟨a,b,o,cap,hsl,hc1,hc2,ha,hr⟩:=hs.open
 subst hsl
 have HR:=Lib.hid hr
 have HA:=Lib.hid ha
 have hx1:=ext_alloc w (.cells [.slice a1 d.signals.length c1,pv,cv].toArray 26)
 have hx2:=ext_alloc (w.alloc (.cells [.slice a1 d.signals.length c1,pv,cv].toArray 26)) (.cells (e.cells (.slice a e.l.length cap)).toArray 48)
 have hb1:=(Blk.new w [.slice a1 d.signals.length c1,pv,cv].toArray 26).ext hx2
 have hb2:=Blk.new (w.alloc (.cells [.slice a1 d.signals.length c1,pv,cv].toArray 26)) (e.cells (.slice a e.l.length cap)).toArray 48
 have hX:=hx1.trans hx2
 rw [World.size_alloc] at hb2
 clear ih hpar hpre0 hpreS hpreL hs0 hw hnB hob hI hO hs hr ha hr1 ha1 hS hsh hnb hck hx1 hx2
 go_enter Tryz.func132,Tryz.ntmps132
 go_upto_region 1 with fail
 generalize (w.alloc _).alloc _=w0 at *
 have HB1:=Lib.hid hb1
 have HB2:=Lib.hid hb2
 have HX:=Lib.hid hX
 have g0:=hb2.has 0 _ rfl
 have g3:=hb2.has 3 _ rfl
 have g4:=hb2.has 4 _ rfl
 have g5:=hb2.has 5 _ rfl
 rw [Nat.zero_add] at g0 g3 g4 g5
 clear hb1 hb2 hX
 have HB20:=Lib.hid g0
 clear g0
 have g0:=HB20.out
 obtain ⟨c2,hc2'⟩ : ∃ c2,(e.op == 2)=c2:=⟨_,rfl⟩
 go_upto_if 12 with fail
 go_cut [0] from 12 to 21 (fun u wx=>Bools wx u (setB (nB d) (S ++ allNums (offsD d) (if e.op=2 then [⟨e.sig,e.hi,e.lo⟩] else [])))∧Ext w0 wx)
 case first =>
  by_cases o2:e.op=2
  ·have hsp:spans0 d.signals e.op e.sig e.hi e.lo=[⟨e.sig,e.hi,e.lo⟩]:=by unfold spans0;rw [if_pos o2]
   have b2:(e.op == 2)=true:=by rw [beq_iff_eq];exact o2
   obtain rfl:c2=true:=by rw [← hc2',b2]
   have HC:=Lib.hid (HSC.out ⟨e.sig,e.hi,e.lo⟩ (by rw [hsp];exact List.mem_singleton.2 rfl) iv _ HX.out (HIV.out.mono fun x _ b o h=>Has.ext h HX.out))
   have HP:=Lib.hid (show allNums (offsD d) (if e.op=2 then [⟨e.sig,e.hi,e.lo⟩] else [])=numsOf (offsD d) ⟨e.sig,e.hi,e.lo⟩ by rw [if_pos o2,allNums_one])
   clear hsp o2 b2 hc2'
   go_wp2_with (first | (go_at_call 129;refine HC.out.mono ?_;rintro r w3 ⟨u,rfl,hu,hx3⟩))
   go_meet
   exact ⟨by rw [HP.out];exact hu.cells,hx3⟩
  ·have b2:(e.op == 2)=false:=by rw [beq_eq_false_iff_ne];exact o2
   obtain rfl:c2=false:=by rw [← hc2',b2]
   have HP:=Lib.hid (show allNums (offsD d) (if e.op=2 then [⟨e.sig,e.hi,e.lo⟩] else [])=[] by rw [if_neg o2];rfl)
   clear o2
   go_wp2_with fail
   go_meet
   exact ⟨by rw [HP.out,List.append_nil];exact HIV.out.mono fun x _ b o h=>Has.ext h HX.out,Below.refl _ _⟩
 case rest =>
 rename_i v0 wc
 obtain ⟨hu,hxc⟩:=hcut
 have HU1:=Lib.hid hu
 have HXC1:=Lib.hid hxc
 clear hu hxc g0 g3 g4 g5
 have g0:=(HB2.out.ext HXC1.out).has 0 _ rfl
 rw [Nat.zero_add] at g0
 obtain ⟨c3,hc3'⟩ : ∃ c3,(e.op == 3)=c3:=⟨_,rfl⟩
 go_upto_if 24 with fail
 go_cut [0] from 24 to 37 (fun u wx=>Bools wx u (setB (nB d) (S ++ allNums (offsD d) (pre 0)))∧Ext w0 wx)
 case first =>
   by_cases o3:e.op=3
   ·have hsp:spans0 d.signals e.op e.sig e.hi e.lo=[⟨e.sig,sigW d.signals e.sig - 1,0⟩]:=by unfold spans0;rw [if_neg (by rw [o3];decide),if_pos o3]
    have HC:=Lib.hid (HSC.out ⟨e.sig,sigW d.signals e.sig - 1,0⟩ (by rw [hsp];exact List.mem_singleton.2 rfl))
    have HP:=Lib.hid (show allNums (offsD d) (pre 0)=numsOf (offsD d) ⟨e.sig,sigW d.signals e.sig - 1,0⟩ by rw [HP0.out,hsp,allNums_one])
    obtain ⟨q1,q2,-⟩:=(HS0.out ⟨e.sig,sigW d.signals e.sig - 1,0⟩ (by rw [hsp];exact List.mem_singleton.2 rfl)).2
    simp only at q1 q2
    obtain ⟨k,hk⟩ : ∃ k:Nat,e.sig=k:=⟨e.sig.toNat,by omega⟩
    have hkl:k < d.signals.length:=by omega
    have hsw:sigW d.signals e.sig=d.signals[k].w:=by unfold sigW;rw [hk,Int.toNat_natCast,List.getElem?_eq_getElem hkl]
    have hwk:=HW.out _ (List.getElem_mem hkl)
    have HSG:=Lib.hid (fun W (hx:Ext w W)=>(Sigs.get (HR1.out.mono fun x _ b o h=>SigAt.ext' hx h) hkl:Has W b1 (o1 + k * 4) d.signals[k].cells))
    rw [hsw] at HC HP
    rw [hk] at HC HP
    have HU2:=Lib.hid (show Bools _ _ (setB (nB d) S) by have:=HU1.out;rw [if_neg (by rw [o3];decide)] at this;simpa [allNums] using this)
    obtain rfl:=HA1.out (by omega)
    generalize d.signals[k]=x at *
    clear hsp hsw
    have b3:(e.op == 3)=true:=by rw [beq_iff_eq];exact o3
    obtain rfl:c3=true:=by rw [← hc3',b3]
    have HK:=Lib.hid hk
    clear b3 o3 q1 q2 hk
    go_upto_region 4 with fail
    clear g0
    refine wp_region_held_drew (S:=fun W=>Ext wc W) (by kernel_rfl) (Below.drew (Below.refl _ _)) (fun hHeld=>?_)
    try simp only [J]
    (refine Jt 0 (_) rfl (yif_load1 rfl fun _ _=>rfl) hHeld ?_;try simp only [J])
    (refine Jt 1 (_) rfl (yif_load1 rfl fun _ _=>rfl) hHeld ?_;try simp only [J])
    (refine Jt 2 (_) rfl (yif_load1 rfl fun _ _=>rfl) hHeld ?_;try simp only [J])
    (refine Jt 3 (.int .i64 (k:Int)) rfl (yif_load1 rfl (by intro W hW;have y:=(HB2.out.ext (HXC1.out.trans hW)).has 3 _ rfl;rw [Nat.zero_add] at y;clear hW;go_simp;rw [HK.out])) hHeld ?_;try simp only [J])
    (refine Jt 4 (_) rfl (yif_load1 rfl fun _ _=>rfl) hHeld ?_;try simp only [J])
    (refine Jt 5 (.slice (some ⟨b1,o1,Option.none⟩) d.signals.length c1) rfl (yif_load1 rfl (by intro W hW;have y:=(HB1.out.ext (HXC1.out.trans hW)).has 0 _ rfl;rw [Nat.zero_add] at y;clear hW;go_simp)) hHeld ?_;try simp only [J])
    (refine Jt 6 (_) rfl (yif_load1 rfl fun _ _=>rfl) hHeld ?_;try simp only [J])
    (refine Jt 7 (.int .i64 (k:Int)) rfl (yif_load1 rfl (by intro W hW;have y:=(HB2.out.ext (HXC1.out.trans hW)).has 3 _ rfl;rw [Nat.zero_add] at y;clear hW;go_simp;rw [HK.out])) hHeld ?_;try simp only [J])
    (refine Jt 8 (.pointer (some ⟨b1,o1 + k * 4,Option.none⟩)) rfl (yif_load1 rfl (by intro W hW;clear hW;go_simp;try (intro h;omega))) hHeld ?_;try simp only [J])
    (refine Jt 9 (_) rfl (yif_load1 rfl (by intro W hW;clear hW;go_simp;rfl)) hHeld ?_;try simp only [J])
    (refine Jt 10 (.int .i64 x.w) rfl (yif_load1 rfl (by intro W hW;have y:=HSG.out W (HX.out.trans (HXC1.out.trans hW)) 1 _ rfl;clear hW;go_simp)) hHeld ?_;try simp only [J])
    (refine Jt 11 (.int .i64 (x.w - 1)) rfl (yif_load1 rfl (by intro W hW;clear hW;go_simp;rw [IntKind.wrap_i64];omega)) hHeld ?_;try simp only [J])
    refine wpAnyH_ready (rs:=[12]) (by kernel_rfl) (by simp) ?_
    refine AllReadyH.cons rfl (fun K hK=>?_) AllReadyH.nil
    go_simp
    refine (HC.out _ _ (HX.out.trans (HXC1.out.trans hHeld)) (HU2.out.mono fun x _ b o h=>Has.ext h hHeld)).mono ?_
    rintro r w3 ⟨u,rfl,hu,hx3⟩
    refine hK.out _ _ (hHeld.trans hx3) (fun hHeld=>?_)
    clear hK K
    try simp only [J]
    (refine Jt 13 (_) rfl (yif_load1 rfl fun _ _=>rfl) hHeld ?_;try simp only [J])
    refine wpAnyH_done (by kernel_rfl) ?_ _
    go_wp2_with fail
    go_meet
    exact ⟨by rw [HP.out];exact hu.cells,HXC1.out.trans hHeld⟩
   ·have b3:(e.op == 3)=false:=by rw [beq_eq_false_iff_ne];exact o3
    obtain rfl:c3=false:=by rw [← hc3',b3]
    have HP:=Lib.hid (show pre 0=(if e.op=2 then [⟨e.sig,e.hi,e.lo⟩] else []) by rw [HP0.out];unfold spans0;rw [if_neg o3])
    clear o3
    go_wp2_with fail
    go_meet
    exact ⟨by rw [HP.out];exact HU1.out,HXC1.out⟩
 case rest =>
  obtain ⟨hu,hxc⟩:=hcut
  have HU:=Lib.hid hu
  have HXC:=Lib.hid hxc
  clear hu hxc g0
  go_wp2_with fail
  go_loopw [0,9] (fun u i wr=>∃ k:Nat,k ≤ e.l.length∧i=.int .i64 k∧Bools wr u (setB (nB d) (S ++ allNums (offsD d) (pre k)))∧Ext w0 wr) (fun _ i _=>e.l.length - (intOf i).toNat)
  case atStart=>exact ⟨0,Nat.zero_le _,rfl,HU.out,HXC.out⟩
  case round =>
   obtain ⟨k,hk,rfl,hrow,hx⟩:=hrel
   have HROW:=Lib.hid hrow
   have HXR:=Lib.hid hx
   have y7:=(HB2.out.ext hx).has 7 _ rfl
   rw [Nat.zero_add] at y7
   clear hrow hx
   by_cases hlt:k < e.l.length
   ·obtain rfl:=HA.out (by omega)
    have hps:=HPS.out k hlt
    have hih:=IH.out _ (List.getElem_mem hlt)
    obtain ⟨sk,hhas,hes⟩:=Es.get HR.out hlt
    generalize e.l[k]=x at *
    have HXK:=Lib.hid hih
    have HH:=Lib.hid hhas
    have HES:=Lib.hid hes
    have HPK:=Lib.hid (show (S ++ allNums (offsD d) (pre k)) ++ allNums (offsD d) (partsE d.signals x)=S ++ allNums (offsD d) (pre (k + 1)) by rw [hps,allNums_append,List.append_assoc])
    clear hps hih hhas hes
    go_upto_region 8 with fail
    clear y7
    refine wp_region_held_drew (S:=fun W=>Ext wr W) (by kernel_rfl) (Below.drew (Below.refl _ _)) (fun hHeld=>?_)
    try simp only [J]
    (refine Jt 0 (_) rfl (yif_load1 rfl fun _ _=>rfl) hHeld ?_;try simp only [J])
    (refine Jt 1 (.agg #[.slice a1 d.signals.length c1,pv,cv]) rfl (yif_load rfl 26 _ rfl rfl (fun W hW=>(HB1.out.ext (HXR.out.trans hW)).has) agg_Flat rfl) hHeld ?_;try simp only [J])
    (refine Jt 2 (_) rfl (yif_load1 rfl fun _ _=>rfl) hHeld ?_;try simp only [J])
    (refine Jt 3 (_) rfl (yif_load1 rfl fun _ _=>rfl) hHeld ?_;try simp only [J])
    (refine Jt 4 (.slice (some ⟨b,o,Option.none⟩) e.l.length cap) rfl (yif_load1 rfl (by intro W hW;have y:=(HB2.out.ext (HXR.out.trans hW)).has 7 _ rfl;rw [Nat.zero_add] at y;clear hW;go_simp)) hHeld ?_;try simp only [J])
    (refine Jt 5 (_) rfl (yif_load1 rfl fun _ _=>rfl) hHeld ?_;try simp only [J])
    (refine Jt 6 (.pointer (some ⟨b,o + k * 8,Option.none⟩)) rfl (yif_load1 rfl (by intro W hW;clear hW;go_simp;try (intro h;omega))) hHeld ?_;try simp only [J])
    (refine Jt 7 (.agg (x.cells sk).toArray) rfl (yif_load rfl 48 _ rfl rfl (fun W hW=>HH.out.ext (HX.out.trans (HXR.out.trans hW))) agg_E rfl) hHeld ?_;try simp only [J])
    refine wpAnyH_ready (rs:=[8]) (by kernel_rfl) (by simp) ?_
    refine AllReadyH.cons rfl (fun K hK=>?_) AllReadyH.nil
    go_simp
    refine (HXK.out _ _ _ ov _ _ (HROW.out.mono fun x _ b o h=>Has.ext h hHeld) (HFV.out.ext (HX.out.trans (HXR.out.trans hHeld))) (HOV.out.ext (HX.out.trans (HXR.out.trans hHeld))) ⟨sk,rfl,HES.out.ext (HX.out.trans (HXR.out.trans hHeld))⟩).mono ?_
    rintro r w3 ⟨u3,rfl,hu3,hx3⟩
    refine hK.out _ _ (hHeld.trans hx3) (fun hHeld=>?_)
    clear hK K
    try simp only [J]
    (refine Jt 9 (_) rfl (yif_load1 rfl fun _ _=>rfl) hHeld ?_;try simp only [J])
    refine wpAnyH_done (by kernel_rfl) ?_ _
    rw [HPK.out] at hu3
    have HU3:=Lib.hid hu3
    clear hu3
    go_wp2_with fail
    go_roundw
    case rel=>exact ⟨k + 1,hlt,by go_num,HU3.out,HXR.out.trans hHeld⟩
    case measure=>simp [intOf];omega
   ·obtain rfl:k=e.l.length:=by omega
    rw [HPL.out] at HROW
    go_wp2_with fail
    go_ret
    exact ⟨_,rfl,HROW.out,HX.out.trans HXR.out⟩
open Go.RowKit
theorem eachTs_take (l:List T) {k:Nat} (h:k < l.length):eachT.eachTs (l.take (k + 1))=eachT.eachTs (l.take k) ++ (l[k] :: eachT.eachTs l[k].l):=by
 rw [eachTs_eq,eachTs_eq,take_snoc _ _ h,List.map_append,List.flatten_append]
 simp [eachT_eq]
theorem wS_all (ts:List T):wS ts ts.length=(ts.filter (fun t=>t.op == 1)).map ownS:=by unfold wS;rw [List.take_length]
theorem rS_all (ls:List Signal) (ts:List T):rS ls ts ts.length=(ts.map fun t=>(t.e.map (partsE ls)).flatten).flatten:=by unfold rS;rw [List.take_length]
theorem spansW_take (l:List T) {k:Nat} (h:k < l.length):spansW (l.take (k + 1))=spansW (l.take k) ++ (if l[k].op=1 then [ownS l[k]] else []) ++ spansW l[k].l:=by
 unfold spansW
 rw [wS_all,wS_all,wS_all,eachTs_take l h,List.filter_append,List.map_append,List.append_assoc]
 congr 1
 by_cases h1:l[k].op=1
 ·rw [if_pos h1,List.filter_cons_of_pos (by rw [beq_iff_eq];exact h1)];rfl
 ·rw [if_neg h1,List.filter_cons_of_neg (by rw [beq_iff_eq];exact h1)];rfl
theorem spansR_take (ls:List Signal) (l:List T) {k:Nat} (h:k < l.length):spansR ls (l.take (k + 1))=spansR ls (l.take k) ++ (l[k].e.map (partsE ls)).flatten ++ spansR ls l[k].l:=by
 unfold spansR
 rw [rS_all,rS_all,rS_all,eachTs_take l h,List.map_append,List.flatten_append,List.append_assoc]
 congr 1
/-! ### filigreeref11.writes -/
def WritesSaid (d:Flat) (l:List T):Prop:=∀ (S:List Int) (iv ov lv:Value) (w:World),Bools w iv (setB (nB d) S)→Ints w ov (offsD d)→Ts w lv l →
 Calls Tryz.prog 97 #[iv,ov,lv] w fun r w'=>∃ u,r=.returned u∧Bools w' u (setB (nB d) (S ++ allNums (offsD d) (spansW l)))∧Ext w w'
set_option maxRecDepth 100000 in
set_option maxHeartbeats 8000000 in
theorem writes_step {d:Flat} (hok:d.ok) (hck:checkM d=0) (l:List T) (hst:∀ t ∈ l,StD d.signals t) (hnb:sumBy nodesT l ≤ 1048576) (ih:∀ t ∈ l,WritesSaid d t.l):WritesSaid d l:=by
 intro S iv ov lv w hI hO hL
 have hw:=checkM_w hck
 have hnB:=nBits_le hok hck
 have hob:=offsM_bound d.signals hw hok.signals
 have hnn:nB d ≤ 1073741824:=by unfold nB;omega
 have hlen:=Nat.le_trans (length_le_sumBy nodesT l fun t _=>nodesT_pos t) hnb
 have hone:=hI.one
 have hone2:=hO.one
 have HSC:=Lib.hid (fun (S:List Int) (t:T) (ht:t ∈ l) (ho1:t.op=1) (iv:Value) W (hx:Ext w W) (hI:Bools W iv (setB (nB d) S)) =>
  span_calls (nB d) S (offsD d) (ownS t) iv ov W hI (hO.ext hx) hnn (numOk_slice d.signals hw (((StD_iff d.signals t).1 (hst t ht)).1 ho1)) (spanR d.signals hw (slice_span (((StD_iff d.signals t).1 (hst t ht)).1 ho1)) rfl) hob)
 have IH:=Lib.hid ih
 have HOV:=Lib.hid hO
 have HIV:=Lib.hid hI
 have HTK:=Lib.hid (fun k (h:k < l.length)=>spansW_take l h)
 obtain ⟨a,b,o,cap,rfl,hc1,hc2,ha,hr⟩:=hL.open
 have HR:=Lib.hid hr
 have HA:=Lib.hid ha
 clear hw hnB hob hnn hst hnb ih hI hO hL hr ha
 go_enter Tryz.func97,Tryz.ntmps97
 go_wp2_with fail
 go_loopw [0,7] (fun u i wr=>∃ k:Nat,k ≤ l.length∧i=.int .i64 k∧Bools wr u (setB (nB d) (S ++ allNums (offsD d) (spansW (l.take k))))∧Ext w wr) (fun _ i _=>l.length - (intOf i).toNat)
 case atStart=>exact ⟨0,Nat.zero_le _,rfl,by simpa [spansW,eachT.eachTs,wS,allNums] using HIV.out,Below.refl _ _⟩
 case round =>
  obtain ⟨k,hk,rfl,hrow,hx⟩:=hrel
  have HROW:=Lib.hid hrow
  have HXR:=Lib.hid hx
  clear hrow hx
  by_cases hlt:k < l.length
  ·obtain rfl:=HA.out (by omega)
   obtain ⟨s1,s2,hhas,he,ht⟩:=Ts.get HR.out hlt
   have htk:=HTK.out k hlt
   have hih:=IH.out _ (List.getElem_mem hlt)
   have HS1:=Lib.hid (fun S hop iv W hx hI=>HSC.out S _ (List.getElem_mem hlt) hop iv W hx hI)
   generalize l[k]=t at *
   have HH:=Lib.hid hhas
   have HTT:=Lib.hid ht
   have HIH:=Lib.hid hih
   have HTK1:=Lib.hid htk
   have g0:=hhas.ext HXR.out 0 _ rfl
   rw [Nat.add_zero] at g0
   obtain ⟨S0,hS0⟩ : ∃ S0,S ++ allNums (offsD d) (spansW (l.take k))=S0:=⟨_,rfl⟩
   rw [hS0] at HROW
   have HS0:=Lib.hid hS0
   clear hhas he ht hih htk hS0
   obtain ⟨c1,hc1'⟩ : ∃ c1,(t.op == 1)=c1:=⟨_,rfl⟩
   go_upto_if 19 with fail
   go_cut [0] from 19 to 37 (fun u wx=>Bools wx u (setB (nB d) (S0 ++ allNums (offsD d) (if t.op=1 then [ownS t] else [])))∧Ext w wx)
   case first =>
    by_cases o1:t.op=1
    ·have HC:=Lib.hid (HS1.out S0 o1)
     have b1:(t.op == 1)=true:=by rw [beq_iff_eq];exact o1
     obtain rfl:c1=true:=by rw [← hc1',b1]
     have HO1:=Lib.hid o1
     clear o1 b1 hc1'
     go_upto_region 5 with fail
     clear g0
     refine wp_region_held_drew (S:=fun W=>Ext wr W) (by kernel_rfl) (Below.drew (Below.refl _ _)) (fun hHeld=>?_)
     try simp only [J]
     (refine Jt 0 (_) rfl (yif_load1 rfl fun _ _=>rfl) hHeld ?_;try simp only [J])
     (refine Jt 1 (_) rfl (yif_load1 rfl fun _ _=>rfl) hHeld ?_;try simp only [J])
     (refine Jt 2 (_) rfl (yif_load1 rfl fun _ _=>rfl) hHeld ?_;try simp only [J])
     (refine Jt 3 (_) rfl (yif_load1 rfl fun _ _=>rfl) hHeld ?_;try simp only [J])
     (refine Jt 4 (.pointer (some ⟨b,o + k * 6,Option.none⟩)) rfl (yif_load1 rfl (by intro W hW;clear hW;go_simp;try (intro h;omega))) hHeld ?_;try simp only [J])
     (refine Jt 5 (_) rfl (yif_load1 rfl (by intro W hW;clear hW;go_simp;rfl)) hHeld ?_;try simp only [J])
     (refine Jt 6 (.int .i64 t.sig) rfl (yif_load1 rfl (by intro W hW;have y:=HH.out.ext (HXR.out.trans hW) 1 _ rfl;clear hW;go_simp)) hHeld ?_;try simp only [J])
     (refine Jt 7 (_) rfl (yif_load1 rfl fun _ _=>rfl) hHeld ?_;try simp only [J])
     (refine Jt 8 (_) rfl (yif_load1 rfl fun _ _=>rfl) hHeld ?_;try simp only [J])
     (refine Jt 9 (.pointer (some ⟨b,o + k * 6,Option.none⟩)) rfl (yif_load1 rfl (by intro W hW;clear hW;go_simp;try (intro h;omega))) hHeld ?_;try simp only [J])
     (refine Jt 10 (_) rfl (yif_load1 rfl (by intro W hW;clear hW;go_simp;rfl)) hHeld ?_;try simp only [J])
     (refine Jt 11 (.int .i64 t.hi) rfl (yif_load1 rfl (by intro W hW;have y:=HH.out.ext (HXR.out.trans hW) 2 _ rfl;clear hW;go_simp)) hHeld ?_;try simp only [J])
     (refine Jt 12 (_) rfl (yif_load1 rfl fun _ _=>rfl) hHeld ?_;try simp only [J])
     (refine Jt 13 (_) rfl (yif_load1 rfl fun _ _=>rfl) hHeld ?_;try simp only [J])
     (refine Jt 14 (.pointer (some ⟨b,o + k * 6,Option.none⟩)) rfl (yif_load1 rfl (by intro W hW;clear hW;go_simp;try (intro h;omega))) hHeld ?_;try simp only [J])
     (refine Jt 15 (_) rfl (yif_load1 rfl (by intro W hW;clear hW;go_simp;rfl)) hHeld ?_;try simp only [J])
     (refine Jt 16 (.int .i64 t.lo) rfl (yif_load1 rfl (by intro W hW;have y:=HH.out.ext (HXR.out.trans hW) 3 _ rfl;clear hW;go_simp)) hHeld ?_;try simp only [J])
     refine wpAnyH_ready (rs:=[17]) (by kernel_rfl) (by simp) ?_
     refine AllReadyH.cons rfl (fun K hK=>?_) AllReadyH.nil
     go_simp
     refine (HC.out _ _ (HXR.out.trans hHeld) (HROW.out.mono fun x _ b o h=>Has.ext h hHeld)).mono ?_
     rintro r w3 ⟨u3,rfl,hu3,hx3⟩
     refine hK.out _ _ (hHeld.trans hx3) (fun hHeld=>?_)
     clear hK K
     try simp only [J]
     (refine Jt 18 (_) rfl (yif_load1 rfl fun _ _=>rfl) hHeld ?_;try simp only [J])
     refine wpAnyH_done (by kernel_rfl) ?_ _
     go_wp2_with fail
     go_meet
     exact ⟨by rw [if_pos HO1.out,allNums_one];exact hu3.cells,HXR.out.trans hHeld⟩
    ·have b1:(t.op == 1)=false:=by rw [beq_eq_false_iff_ne];exact o1
     obtain rfl:c1=false:=by rw [← hc1',b1]
     have HO1:=Lib.hid o1
     clear o1 b1 hc1'
     go_wp2_with fail
     go_meet
     exact ⟨by rw [if_neg HO1.out];simpa [allNums] using HROW.out,HXR.out⟩
   case rest =>
    obtain ⟨hu,hxc⟩:=hcut
    have HU:=Lib.hid hu
    have HXC:=Lib.hid hxc
    have HC:=Lib.hid (HIH.out _ _ ov s2 _ hu (HOV.out.ext hxc) (HTT.out.ext hxc))
    have HF:=Lib.hid (show (S0 ++ allNums (offsD d) (if t.op=1 then [ownS t] else [])) ++ allNums (offsD d) (spansW t.l)=S ++ allNums (offsD d) (spansW (l.take (k + 1))) by
     rw [HTK1.out,← HS0.out,allNums_append,allNums_append];simp only [List.append_assoc])
    rw [HF.out] at HC
    have g5:=HH.out.ext hxc 5 _ rfl
    clear g0 hu hxc
    go_wp2_with (first | (go_at_call 97;refine HC.out.mono ?_;rintro r w3 ⟨u3,rfl,hu3,hx3⟩))
    go_roundw
    case rel=>exact ⟨k + 1,hlt,by go_num,hu3,HXC.out.trans hx3⟩
    case measure=>simp [intOf];omega
  ·obtain rfl:k=l.length:=by omega
   rw [List.take_length] at HROW
   go_wp2_with fail
   go_ret
   exact ⟨_,rfl,HROW.out,HXR.out⟩
theorem writes_T {d:Flat} (hok:d.ok) (hck:checkM d=0) (t:T):StD d.signals t→nodesT t ≤ 1048576→WritesSaid d t.l:=by
 induction t using T.ind with
 | h t ih =>
 intro hst hnb
 have h1:=((StD_iff d.signals t).1 hst).2.2.2
 have h2:=nodesT_eq t
 refine writes_step hok hck t.l h1 (by omega) fun x hx=>ih x hx (h1 x hx) ?_
 have:=le_sumBy nodesT t.l x hx
 omega
theorem writes_calls {d:Flat} (hok:d.ok) (hck:checkM d=0) (l:List T) (hst:∀ t ∈ l,StD d.signals t) (hnb:sumBy nodesT l ≤ 1048576):WritesSaid d l :=
 writes_step hok hck l hst hnb fun t ht=>writes_T hok hck t (hst t ht) (Nat.le_trans (le_sumBy nodesT l t ht) hnb)
/-! ### filigreeref11.reads -/
def ReadsSaid (d:Flat) (l:List T):Prop:=∀ (S:List Int) (iv fv ov lv:Value) (w:World),Bools w iv (setB (nB d) S)→FlatV w fv d→Ints w ov (offsD d)→Ts w lv l →
 Calls Tryz.prog 101 #[iv,fv,ov,lv] w fun r w'=>∃ u,r=.returned u∧Bools w' u (setB (nB d) (S ++ allNums (offsD d) (spansR d.signals l)))∧Ext w w'
set_option maxRecDepth 100000 in
set_option maxHeartbeats 8000000 in
theorem reads_step {d:Flat} (hok:d.ok) (hck:checkM d=0) (l:List T) (hst:∀ t ∈ l,StD d.signals t) (hnb:sumBy nodesT l ≤ 1048576) (ih:∀ t ∈ l,ReadsSaid d t.l):ReadsSaid d l:=by
 intro S iv fv ov lv w hI hF hO hL
 have hlen:=Nat.le_trans (length_le_sumBy nodesT l fun t _=>nodesT_pos t) hnb
 have hone:=hI.one
 have hone2:=hO.one
 have HRE:=Lib.hid (fun (t:T) (ht:t ∈ l) (x:E) (hx:x ∈ t.e)=>readE_calls hok hck x (((StD_iff d.signals t).1 (hst t ht)).2.2.1 x hx) (by
  have h1:=le_sumBy nodesT l t ht
  have h2:=nodesT_eq t
  have h3:=le_sumBy nodes t.e x hx
  omega))
 have HEL:=Lib.hid (fun (t:T) (ht:t ∈ l)=>(by
  have h1:=le_sumBy nodesT l t ht
  have h2:=nodesT_eq t
  have h3:=length_le_sumBy nodes t.e fun t _=>nodes_pos t
  omega:t.e.length ≤ 1048576))
 have IH:=Lib.hid ih
 have HOV:=Lib.hid hO
 have HIV:=Lib.hid hI
 have HFV:=Lib.hid hF
 have HTK:=Lib.hid (fun k (h:k < l.length)=>spansR_take d.signals l h)
 obtain ⟨sv,pv,cv,rfl,hfs,hfp,hfc⟩:=hF
 obtain ⟨a,b,o,cap,rfl,hc1,hc2,ha,hr⟩:=hL.open
 have HR:=Lib.hid hr
 have HA:=Lib.hid ha
 have HX:=Lib.hid (ext_alloc w (.cells [sv,pv,cv].toArray 26))
 have HB:=Lib.hid (Blk.new w [sv,pv,cv].toArray 26)
 clear hst hnb ih hI hO hL hr ha hfs hfp hfc
 go_enter Tryz.func101,Tryz.ntmps101
 go_upto_region 1 with fail
 generalize w.alloc _=w1 at *
 go_wp2_with fail
 go_loopw [0,9] (fun u i wr=>∃ k:Nat,k ≤ l.length∧i=.int .i64 k∧Bools wr u (setB (nB d) (S ++ allNums (offsD d) (spansR d.signals (l.take k))))∧Ext w1 wr) (fun _ i _=>l.length - (intOf i).toNat)
 case atStart=>exact ⟨0,Nat.zero_le _,rfl,by simpa [spansR,eachT.eachTs,rS,allNums] using HIV.out.mono fun x _ b o h=>Has.ext h HX.out,Below.refl _ _⟩
 case round =>
  obtain ⟨k,hk,rfl,hrow,hx⟩:=hrel
  obtain ⟨wo,rfl⟩ : ∃ wo,wo=wr:=⟨_,rfl⟩
  have HROW:=Lib.hid hrow
  have HXR:=Lib.hid (HX.out.trans hx)
  have HX1:=Lib.hid hx
  clear hrow hx
  by_cases hlt:k < l.length
  ·obtain rfl:=HA.out (by omega)
   obtain ⟨s1,s2,hhas,he,ht⟩:=Ts.get HR.out hlt
   have htk:=HTK.out k hlt
   have hih:=IH.out _ (List.getElem_mem hlt)
   have hre:=HRE.out _ (List.getElem_mem hlt)
   have hel:=HEL.out _ (List.getElem_mem hlt)
   generalize l[k]=t at *
   have HH:=Lib.hid hhas
   have HTT:=Lib.hid ht
   have HIH:=Lib.hid hih
   have HTK1:=Lib.hid htk
   have HRE1:=Lib.hid hre
   obtain ⟨a2,b2,o2,cap2,rfl,hd1,hd2,ha2,hr2⟩:=he.open
   have HA2:=Lib.hid ha2
   have HR2:=Lib.hid hr2
   obtain ⟨S0,hS0⟩ : ∃ S0,S ++ allNums (offsD d) (spansR d.signals (l.take k))=S0:=⟨_,rfl⟩
   rw [hS0] at HROW
   have HS0:=Lib.hid hS0
   clear hhas he ht hih htk hS0 hre ha2 hr2
   go_wp2_with fail
   go_loopw [0,10] (fun u i wi=>∃ j:Nat,j ≤ t.e.length∧i=.int .i64 j∧Bools wi u (setB (nB d) (S0 ++ allNums (offsD d) ((t.e.take j).map (partsE d.signals)).flatten))∧Ext wo wi) (fun _ i _=>t.e.length - (intOf i).toNat)
   case atStart=>exact ⟨0,Nat.zero_le _,rfl,by simpa [allNums] using HROW.out,Below.refl _ _⟩
   case round =>
    obtain ⟨j,hj,rfl,hrow,hx⟩:=hrel
    have HROWI:=Lib.hid hrow
    have HXI:=Lib.hid hx
    have g4:=HH.out.ext (HXR.out.trans hx) 4 _ rfl
    clear hrow hx
    by_cases hjl:j < t.e.length
    ·obtain rfl:=HA2.out (by omega)
     obtain ⟨sk,hxh,hxs⟩:=Es.get HR2.out hjl
     have hxe:=HRE1.out _ (List.getElem_mem hjl)
     have htk2:=take_snoc t.e j hjl
     generalize t.e[j]=x at *
     have HXH:=Lib.hid hxh
     have HXS:=Lib.hid hxs
     have HXE:=Lib.hid hxe
     have HF:=Lib.hid (show (S0 ++ allNums (offsD d) ((t.e.take j).map (partsE d.signals)).flatten) ++ allNums (offsD d) (partsE d.signals x)=S0 ++ allNums (offsD d) ((t.e.take (j + 1)).map (partsE d.signals)).flatten by
      rw [htk2,List.map_append,List.flatten_append,allNums_append];simp only [List.map_cons,List.map_nil,List.flatten_cons,List.flatten_nil,List.append_nil,List.append_assoc])
     clear hxh hxs hxe htk2
     go_upto_region 7 with fail
     clear g4
     refine wp_region_held_drew (S:=fun W=>Ext wr W) (by kernel_rfl) (Below.drew (Below.refl _ _)) (fun hHeld=>?_)
     try simp only [J]
     (refine Jt 0 (_) rfl (yif_load1 rfl fun _ _=>rfl) hHeld ?_;try simp only [J])
     (refine Jt 1 (.agg #[sv,pv,cv]) rfl (yif_load rfl 26 _ rfl rfl (fun W hW=>(HB.out.ext (HX1.out.trans (HXI.out.trans hW))).has) agg_Flat rfl) hHeld ?_;try simp only [J])
     (refine Jt 2 (_) rfl (yif_load1 rfl fun _ _=>rfl) hHeld ?_;try simp only [J])
     (refine Jt 3 (_) rfl (yif_load1 rfl fun _ _=>rfl) hHeld ?_;try simp only [J])
     (refine Jt 4 (_) rfl (yif_load1 rfl fun _ _=>rfl) hHeld ?_;try simp only [J])
     (refine Jt 5 (.pointer (some ⟨b,o + k * 6,Option.none⟩)) rfl (yif_load1 rfl (by intro W hW;clear hW;go_simp;try (intro h;omega))) hHeld ?_;try simp only [J])
     (refine Jt 6 (_) rfl (yif_load1 rfl (by intro W hW;clear hW;go_simp;rfl)) hHeld ?_;try simp only [J])
     (refine Jt 7 (.slice (some ⟨b2,o2,Option.none⟩) t.e.length cap2) rfl (yif_load1 rfl (by intro W hW;have y:=HH.out.ext (HXR.out.trans (HXI.out.trans hW)) 4 _ rfl;clear hW;go_simp)) hHeld ?_;try simp only [J])
     (refine Jt 8 (_) rfl (yif_load1 rfl fun _ _=>rfl) hHeld ?_;try simp only [J])
     (refine Jt 9 (.pointer (some ⟨b2,o2 + j * 8,Option.none⟩)) rfl (yif_load1 rfl (by intro W hW;clear hW;go_simp;try (intro h;omega))) hHeld ?_;try simp only [J])
     (refine Jt 10 (.agg (x.cells sk).toArray) rfl (yif_load rfl 48 _ rfl rfl (fun W hW=>HXH.out.ext (HXR.out.trans (HXI.out.trans hW))) agg_E rfl) hHeld ?_;try simp only [J])
     refine wpAnyH_ready (rs:=[11]) (by kernel_rfl) (by simp) ?_
     refine AllReadyH.cons rfl (fun K hK=>?_) AllReadyH.nil
     go_simp
     have HZ:=Lib.hid (HXR.out.trans (HXI.out.trans hHeld))
     refine (HXE.out _ _ _ ov _ _ (HROWI.out.mono fun x _ b o h=>Has.ext h hHeld) (HFV.out.ext HZ.out) (HOV.out.ext HZ.out) ⟨sk,rfl,HXS.out.ext HZ.out⟩).mono ?_
     rintro r w3 ⟨u3,rfl,hu3,hx3⟩
     refine hK.out _ _ (hHeld.trans hx3) (fun hHeld=>?_)
     clear hK K
     try simp only [J]
     (refine Jt 12 (_) rfl (yif_load1 rfl fun _ _=>rfl) hHeld ?_;try simp only [J])
     refine wpAnyH_done (by kernel_rfl) ?_ _
     rw [HF.out] at hu3
     have HU3:=Lib.hid hu3
     clear hu3
     go_wp2_with fail
     go_roundw
     case rel=>exact ⟨j + 1,hjl,by go_num,HU3.out,HXI.out.trans hHeld⟩
     case measure=>simp [intOf];omega
    ·obtain rfl:j=t.e.length:=by omega
     rw [List.take_length] at HROWI
     have HZ:=Lib.hid (HXR.out.trans HXI.out)
     have HC:=Lib.hid (fun W (hx:Ext wr W)=>HIH.out _ _ _ ov s2 W (HROWI.out.mono fun x _ b o h=>Has.ext h hx) (HFV.out.ext (HZ.out.trans hx)) (HOV.out.ext (HZ.out.trans hx)) (HTT.out.ext (HZ.out.trans hx)))
     have HF:=Lib.hid (show (S0 ++ allNums (offsD d) (t.e.map (partsE d.signals)).flatten) ++ allNums (offsD d) (spansR d.signals t.l)=S ++ allNums (offsD d) (spansR d.signals (l.take (k + 1))) by
      rw [HTK1.out,← HS0.out,allNums_append,allNums_append];simp only [List.append_assoc])
     rw [HF.out] at HC
     go_upto_region 8 with fail
     clear g4
     refine wp_region_held_drew (S:=fun W=>Ext wr W) (by kernel_rfl) (Below.drew (Below.refl _ _)) (fun hHeld=>?_)
     try simp only [J]
     (refine Jt 0 (_) rfl (yif_load1 rfl fun _ _=>rfl) hHeld ?_;try simp only [J])
     (refine Jt 1 (.agg #[sv,pv,cv]) rfl (yif_load rfl 26 _ rfl rfl (fun W hW=>(HB.out.ext (HX1.out.trans (HXI.out.trans hW))).has) agg_Flat rfl) hHeld ?_;try simp only [J])
     (refine Jt 2 (_) rfl (yif_load1 rfl fun _ _=>rfl) hHeld ?_;try simp only [J])
     (refine Jt 3 (_) rfl (yif_load1 rfl fun _ _=>rfl) hHeld ?_;try simp only [J])
     (refine Jt 4 (_) rfl (yif_load1 rfl fun _ _=>rfl) hHeld ?_;try simp only [J])
     (refine Jt 5 (.pointer (some ⟨b,o + k * 6,Option.none⟩)) rfl (yif_load1 rfl (by intro W hW;clear hW;go_simp;try (intro h;omega))) hHeld ?_;try simp only [J])
     (refine Jt 6 (_) rfl (yif_load1 rfl (by intro W hW;clear hW;go_simp;rfl)) hHeld ?_;try simp only [J])
     (refine Jt 7 (s2) rfl (yif_load1 rfl (by intro W hW;have y:=HH.out.ext (HXR.out.trans (HXI.out.trans hW)) 5 _ rfl;clear hW;go_simp)) hHeld ?_;try simp only [J])
     refine wpAnyH_ready (rs:=[8]) (by kernel_rfl) (by simp) ?_
     refine AllReadyH.cons rfl (fun K hK=>?_) AllReadyH.nil
     go_simp
     refine (HC.out _ hHeld).mono ?_
     rintro r w3 ⟨u3,rfl,hu3,hx3⟩
     refine hK.out _ _ (hHeld.trans hx3) (fun hHeld=>?_)
     clear hK K
     try simp only [J]
     (refine Jt 9 (_) rfl (yif_load1 rfl fun _ _=>rfl) hHeld ?_;try simp only [J])
     refine wpAnyH_done (by kernel_rfl) ?_ _
     have HU3:=Lib.hid hu3
     clear hu3
     go_wp2_with fail
     go_roundw
     case rel=>exact ⟨k + 1,hlt,by go_num,HU3.out,HX1.out.trans (HXI.out.trans hHeld)⟩
     case measure=>simp [intOf];omega
  ·obtain rfl:k=l.length:=by omega
   rw [List.take_length] at HROW
   go_wp2_with fail
   go_ret
   exact ⟨_,rfl,HROW.out,HXR.out⟩
theorem reads_T {d:Flat} (hok:d.ok) (hck:checkM d=0) (t:T):StD d.signals t→nodesT t ≤ 1048576→ReadsSaid d t.l:=by
 induction t using T.ind with
 | h t ih =>
 intro hst hnb
 have h1:=((StD_iff d.signals t).1 hst).2.2.2
 have h2:=nodesT_eq t
 refine reads_step hok hck t.l h1 (by omega) fun x hx=>ih x hx (h1 x hx) ?_
 have:=le_sumBy nodesT t.l x hx
 omega
theorem reads_calls {d:Flat} (hok:d.ok) (hck:checkM d=0) (l:List T) (hst:∀ t ∈ l,StD d.signals t) (hnb:sumBy nodesT l ≤ 1048576):ReadsSaid d l :=
 reads_step hok hck l hst hnb fun t ht=>reads_T hok hck t (hst t ht) (Nat.le_trans (le_sumBy nodesT l t ht) hnb)
open Go.RowKit
/-! ### filigreeref11.always -/
def AlwRSaid (d:Flat) (l:List T):Prop:=∀ (ov lv:Value) (w:World),Ints w ov (offsD d)→Ts w lv l →
 Calls Tryz.prog 100 #[ov,lv] w fun r w'=>∃ u,r=.returned u∧Bools w' u (setB (nB d) (alwM (offsD d) l))∧Ext w w'
def interK (ls:List (List Int)) (k:Nat):List Int:=(ls.headD []).filter fun x=>(ls.take k).all fun m=>m.contains x
theorem interK_one {ls:List (List Int)} {x:List Int} {r:List (List Int)} (h:ls=x :: r) (y:Int):y ∈ interK ls 1 ↔ y ∈ x:=by
 subst h;simp [interK,List.mem_filter]
theorem interK_succ (ls:List (List Int)) {k:Nat} (hk:k < ls.length) (y:Int):y ∈ interK ls (k + 1) ↔ y ∈ interK ls k∧y ∈ ls[k]:=by
 unfold interK
 rw [take_snoc _ _ hk]
 simp only [List.mem_filter,List.all_append,List.all_cons,List.all_nil,Bool.and_true,Bool.and_eq_true,List.contains_eq_mem,decide_eq_true_eq]
 rw [and_assoc]
theorem interK_full (ls:List (List Int)):interK ls ls.length=metM ls:=by unfold interK metM;rw [List.take_length]
theorem alwM_mem (offs:List Int) (l:List T) (x:Int):x ∈ alwM offs l ↔ x ∈ alwP offs l:=by unfold alwM;rw [setI_mem]
theorem made_row (w:World) (n:Nat) (hn:n ≤ 9223372036854775807):BoolRow w.heap.size (.slice (some ⟨w.heap.size,0,none⟩) n n) (setB n []) (w.alloc (.cells (List.replicate n (Value.bool false)).toArray 4)):=by
 rw [setB_nil]
 exact BoolRow.made (Nat.le_refl _) hn
theorem made_bools {n:Nat}:(madeCells (Value.bool false).cells (n * 1))=(List.replicate n (Value.bool false)).toArray:=by rw [Nat.mul_one];exact madeCells_one _ _
set_option maxRecDepth 100000 in
set_option maxHeartbeats 16000000 in
theorem alwR_step {d:Flat} (hok:d.ok) (hck:checkM d=0) (l:List T) (hst:∀ t ∈ l,StD d.signals t) (hnb:sumBy nodesT l ≤ 1048576) (ih1:∀ t ∈ l,AlwRSaid d t.l) (ih2:∀ t ∈ l,∀ x ∈ t.l,AlwRSaid d x.l):AlwRSaid d l:=by
 intro ov lv w hO hL
 have hw:=checkM_w hck
 have hnB:=nBits_le hok hck
 have hob:=offsM_bound d.signals hw hok.signals
 have hnn:nB d ≤ 67108864:=by unfold nB;omega
 have hnBe:sumW d.signals d.signals.length=((nB d:Nat):Int):=by show nBits d=_;unfold nB;omega
 have hlen:=Nat.le_trans (length_le_sumBy nodesT l fun t _=>nodesT_pos t) hnb
 have hsl:=hok.signals
 have hone2:=hO.one
 have HSC:=Lib.hid (fun (t:T) (ht:t ∈ l) (ho1:t.op=1) (iv:Value) W (hx:Ext w W) (hI:Bools W iv (setB (nB d) [])) =>
  span_calls (nB d) [] (offsD d) (ownS t) iv ov W hI (hO.ext hx) (by omega) (numOk_slice d.signals hw (((StD_iff d.signals t).1 (hst t ht)).1 ho1)) (spanR d.signals hw (slice_span (((StD_iff d.signals t).1 (hst t ht)).1 ho1)) rfl) hob)
 have HST:=Lib.hid (fun (t:T) (ht:t ∈ l)=>((StD_iff d.signals t).1 (hst t ht)).2.1)
 have HTL:=Lib.hid (fun (t:T) (ht:t ∈ l)=>(by
  have h1:=le_sumBy nodesT l t ht
  have h2:=nodesT_eq t
  have h3:=length_le_sumBy nodesT t.l fun t _=>nodesT_pos t
  omega:t.l.length ≤ 1048576))
 have IH1:=Lib.hid ih1
 have IH2:=Lib.hid ih2
 have HOV:=Lib.hid hO
 have HTK:=Lib.hid (fun k (h:k < l.length)=>alwP_take (offsD d) l k h)
 have HNE:=Lib.hid hnBe
 obtain ⟨a9,b9,o9,c9,rfl,he1,he2,ha9,hr9⟩:=hO.open
 have hol:(offsD d).length=d.signals.length + 1:=offsM_length _ _
 obtain rfl:=ha9 (by omega)
 have hz:=Ints.cell (k:=d.signals.length) hr9 (by omega)
 have hzl:(offsD d)[d.signals.length]'(by omega)=((nB d:Nat):Int):=by
  have:=offsM_last d.signals d.signals.length
  rw [hnBe,List.getElem?_eq_getElem (by show _ < (offsD d).length;omega)] at this
  injection this
 rw [hzl] at hz
 rw [hol]
 rw [hol] at he1
 obtain ⟨a,b,o,cap,rfl,hc1,hc2,ha,hr⟩:=hL.open
 have HR:=Lib.hid hr
 have HA:=Lib.hid ha
 rw [hol] at HOV HSC hone2
 clear hw hnB hob hst hnb ih1 ih2 hO hL hr ha hr9 ha9 hzl hnBe
 go_enter Tryz.func100,Tryz.ntmps100
 go_wp2_with ((with_reducible show wpList _ _ _ (⟨_,Op.makeSlice _ _ _,_,_,_,_⟩ :: _) _ _);refine Hid.out ?_)
 refine Lib.hid ?_
 clear hz
 refine wpList_mk rfl _ _ _ rfl (n:=nB d) rfl rfl Tryz.underlying35 info_bool (by omega) (by omega) ?_
 rw [made_bools]
 have hx1:=ext_alloc w (.cells (List.replicate (nB d) (Value.bool false)).toArray 4)
 have hr1:=made_row w (nB d) (by omega)
 generalize w.alloc _=w1 at *
 have HR1:=Lib.hid hr1.cells
 have HX1:=Lib.hid hx1
 clear hr1 hx1
 go_wp2_with fail
 go_loopw [6,7] (fun u i wr=>∃ k:Nat,k ≤ l.length∧i=.int .i64 k∧Bools wr u (setB (nB d) (alwP (offsD d) (l.take k)))∧Ext w wr) (fun _ i _=>l.length - (intOf i).toNat)
 case atStart=>exact ⟨0,Nat.zero_le _,rfl,by simpa [alwP] using HR1.out,HX1.out⟩
 case round =>
  obtain ⟨k,hk,rfl,hrow,hx⟩:=hrel
  obtain ⟨wo,rfl⟩ : ∃ wo,wo=wr:=⟨_,rfl⟩
  have HROW:=Lib.hid hrow
  have HXR:=Lib.hid hx
  clear hrow hx
  by_cases hlt:k < l.length
  ·obtain rfl:=HA.out (by omega)
   obtain ⟨s1,s2,hhas,he,ht⟩:=Ts.get HR.out hlt
   have htk:=HTK.out k hlt
   have hi1:=IH1.out _ (List.getElem_mem hlt)
   have hi2:=IH2.out _ (List.getElem_mem hlt)
   have hsc:=HSC.out _ (List.getElem_mem hlt)
   have hst:=HST.out _ (List.getElem_mem hlt)
   have htl:=HTL.out _ (List.getElem_mem hlt)
   generalize l[k]=t at *
   have HTT:=Lib.hid ht
   have HI1:=Lib.hid hi1
   have HI2:=Lib.hid hi2
   have HSC1:=Lib.hid hsc
   have HST1:=Lib.hid hst
   have HTK1:=Lib.hid htk
   have HH1:=Lib.hid (hhas.ext HXR.out)
   have HE1:=he.one
   have HT2:=ht.one
   have HALT:=Lib.hid (alt_eq (offsD d) t)
   clear hhas he ht hi1 hi2 hsc hst htk
   have hx4:=ext_alloc wo (.cells (t.cells s1 s2).toArray 68)
   have hb4:=Blk.new wo (t.cells s1 s2).toArray 68
   go_upto_region 7 with (first | ((with_reducible show wpList _ _ _ (⟨_,Op.load 68 _,_,_,_,_⟩ :: _) _ _);refine wpList_load_has rfl 68 _ rfl rfl (HH1.out) agg_T rfl ?_) | ((with_reducible show wpList _ _ _ (⟨_,Op.store 68 _ _,_,_,_,_⟩ :: _) _ _);refine wpList_store_new rfl 68 _ _ rfl rfl (by first | rfl | simp) rfl agg_T (rfl) rfl (by simp [HE1,HT2,one_int]) ?_))
   generalize wo.alloc _=w4 at *
   have HB4:=Lib.hid hb4
   have HX4:=Lib.hid hx4
   clear hb4 hx4
   go_wp2_with ((with_reducible show wpList _ _ _ (⟨_,Op.makeSlice _ _ _,_,_,_,_⟩ :: _) _ _);refine Hid.out ?_)
   refine Lib.hid ?_
   refine wpList_mk rfl _ _ _ rfl (n:=nB d) rfl rfl Tryz.underlying35 info_bool (by omega) (by omega) ?_
   rw [made_bools]
   have hx5:=ext_alloc w4 (.cells (List.replicate (nB d) (Value.bool false)).toArray 4)
   have hr5:=made_row w4 (nB d) (by omega)
   generalize w4.alloc _=w5 at *
   have HR5:=Lib.hid hr5.cells
   have HX5:=Lib.hid (HX4.out.trans hx5)
   have HB5:=Lib.hid (HB4.out.ext hx5)
   have HXW:=Lib.hid (HXR.out.trans HX5.out)
   have g0:=HB5.out.has 0 _ rfl
   rw [Nat.zero_add] at g0
   clear hr5 hx5
   go_upto_block 2 with fail
   go_cut [9] from 31 to 74 (fun u wx=>Bools wx u (setB (nB d) (alt (offsD d) t))∧Ext w5 wx)
   case first =>
    by_cases o1:t.op=1
    ·have HP:=Lib.hid (show setB (nB d) ([] ++ numsOf (offsD d) (ownS t))=setB (nB d) (alt (offsD d) t) by
      rw [HALT.out,if_pos o1]
      refine setB_ext fun x=>?_
      rw [numbersM_set,setI_mem,allNums_one,List.nil_append])
     have HC:=Lib.hid (HSC1.out o1 _ _ HXW.out HR5.out)
     rw [HP.out] at HC
     have g1:=HB5.out.has 1 _ rfl
     have g2:=HB5.out.has 2 _ rfl
     have g3:=HB5.out.has 3 _ rfl
     rw [Nat.zero_add] at g1 g2 g3
     go_wp2_with (first | (go_at_call 129;refine HC.out.mono ?_;rintro r w6 ⟨u6,rfl,hu6,hx6⟩))
     go_meet
     exact ⟨hu6.cells,hx6⟩
    ·by_cases o2:t.op=2 ∨ t.op=3
     ·have hl0:=HST1.out o2
      have HP:=Lib.hid (show setB (nB d) (interK (t.l.map fun x=>alwM (offsD d) x.l) t.l.length)=setB (nB d) (alt (offsD d) t) by
       rw [HALT.out,if_neg o1,if_pos o2,← interK_full,List.length_map])
      obtain ⟨x0,l0,hl⟩ : ∃ x l0,t.l=x :: l0:=List.exists_cons_of_length_pos hl0
      have HK1:=Lib.hid (show setB (nB d) (alwM (offsD d) (t.l[0]).l)=setB (nB d) (interK (t.l.map fun x=>alwM (offsD d) x.l) 1) from
       setB_ext fun x=>(interK_one (ls:=t.l.map fun x=>alwM (offsD d) x.l) (x:=alwM (offsD d) (t.l[0]).l) (r:=l0.map fun x=>alwM (offsD d) x.l) (by simp [hl]) x).symm)
      obtain ⟨a2,b2,oo2,cap2,rfl,hd1,hd2,ha2,hr2⟩:=HTT.out.open
      obtain rfl:=ha2 hl0
      have HR2:=Lib.hid hr2
      have g5:=HB5.out.has 5 _ rfl
      rw [Nat.zero_add] at g5
      obtain ⟨q1,q2,qh,qe,qt⟩:=Ts.get hr2 hl0
      have HC:=Lib.hid (HI2.out _ (List.getElem_mem hl0) _ q2 w5 (HOV.out.ext HXW.out) (qt.ext HXW.out))
      rw [HK1.out] at HC
      have y5:=qh.ext HXW.out 5 _ rfl
      rw [Nat.zero_mul,Nat.add_zero] at y5
      have hnb2:(t.op == 1)=false:=by rw [beq_eq_false_iff_ne];exact o1
      clear hr2 qh qe qt hl x0 l0 ha2
      rcases o2 with o2 | o2
      all_goals (
       go_upto_region 14 with fail
       clear g0 hnb2 o1 o2
       go_upto_region 15 with (first | (go_at_call 100;refine HC.out.mono ?_;rintro r w6 ⟨u6,rfl,hu6,hx6⟩))
       have HU6:=Lib.hid hu6
       have HX6:=Lib.hid hx6
       clear hu6 hx6 y5 g5
       go_wp2_with fail
       go_loopw [9,10] (fun u i wi=>∃ j:Nat,1 ≤ j∧j ≤ t.l.length∧i=.int .i64 j∧Bools wi u (setB (nB d) (interK (t.l.map fun x=>alwM (offsD d) x.l) j))∧Ext w5 wi) (fun _ i _=>t.l.length - (intOf i).toNat)
       case atStart=>exact ⟨1,Nat.le_refl _,hl0,rfl,HU6.out,HX6.out⟩
       case round =>
        obtain ⟨j,hj1,hj,rfl,hrow,hx⟩:=hrel
        have HROWI:=Lib.hid hrow
        have HXI:=Lib.hid hx
        have g5:=(HB5.out.ext hx).has 5 _ rfl
        rw [Nat.zero_add] at g5
        clear hrow hx
        by_cases hjl:j < t.l.length
        ·obtain ⟨q1,q2,qh,qe,qt⟩:=Ts.get HR2.out hjl
         have HC:=Lib.hid (HI2.out _ (List.getElem_mem hjl) _ q2 wr (HOV.out.ext (HXW.out.trans HXI.out)) (qt.ext (HXW.out.trans HXI.out)))
         have HIK:=Lib.hid (fun (y:Int)=>interK_succ (t.l.map fun x=>alwM (offsD d) x.l) (k:=j) (by simpa using hjl) y)
         simp only [List.getElem_map] at HIK
         have y5:=qh.ext (HXW.out.trans HXI.out) 5 _ rfl
         generalize t.l[j]=x at *
         have HBO:=Lib.hid (fun W u (hx:Ext wr W) (hu:Bools W u (setB (nB d) (alwM (offsD d) x.l)))=>both_calls11 (nB d) _ _ (interK (t.l.map fun x=>alwM (offsD d) x.l) (j + 1)) _ u W (HROWI.out.mono fun x _ b o h=>Has.ext h hx) hu (by omega)
          (fun q hq=>by rw [← Bool.decide_and];exact decide_eq_decide.2 (HIK.out (q:Int))))
         clear qh qe qt
         go_wp2_with (first | (go_at_call 100;refine HC.out.mono ?_;rintro r w7 ⟨u7,rfl,hu7,hx7⟩) | (go_at_call 130;refine (HBO.out _ _ hx7 hu7).mono ?_;rintro r w8 ⟨u8,rfl,hu8,hx8⟩))
         go_roundw
         case rel=>exact ⟨j + 1,by omega,hjl,by go_num,hu8.cells,HXI.out.trans (hx7.trans hx8)⟩
         case measure=>simp [intOf];omega
        ·obtain rfl:j=t.l.length:=by omega
         rw [HP.out] at HROWI
         go_wp2_with fail
         go_meet
         exact ⟨HROWI.out,HXI.out⟩)
     ·have b1:(t.op == 1)=false:=by rw [beq_eq_false_iff_ne];exact o1
      have b2:(t.op == 2)=false:=by rw [beq_eq_false_iff_ne];omega
      have b3:(t.op == 3)=false:=by rw [beq_eq_false_iff_ne];omega
      have HP:=Lib.hid (show alwM (offsD d) t.l=alt (offsD d) t by rw [HALT.out,if_neg o1,if_neg o2])
      have HC:=Lib.hid (HI1.out _ s2 w5 (HOV.out.ext HXW.out) (HTT.out.ext HXW.out))
      rw [HP.out] at HC
      have g5:=HB5.out.has 5 _ rfl
      rw [Nat.zero_add] at g5
      clear o1 o2
      go_wp2_with (first | (go_at_call 100;refine HC.out.mono ?_;rintro r w6 ⟨u6,rfl,hu6,hx6⟩))
      go_meet
      exact ⟨hu6,hx6⟩
   case rest =>
    obtain ⟨hu,hxc⟩:=hcut
    have HXC:=Lib.hid (HXW.out.trans hxc)
    have HEI:=Lib.hid (either_calls11 (nB d) _ _ (alwP (offsD d) (l.take (k + 1))) _ _ _ (HROW.out.mono fun x _ b o h=>Has.ext h (HX5.out.trans hxc)) hu (by omega) (fun q hq=>by
     rw [HTK1.out,← Bool.decide_or];exact decide_eq_decide.2 List.mem_append))
    clear g0 hu hxc
    go_wp2_with (first | (go_at_call 131;refine HEI.out.mono ?_;rintro r w8 ⟨u8,rfl,hu8,hx8⟩))
    go_roundw
    case rel=>exact ⟨k + 1,hlt,by go_num,hu8.cells,HXC.out.trans hx8⟩
    case measure=>simp [intOf];omega
  ·obtain rfl:k=l.length:=by omega
   rw [List.take_length] at HROW
   have HP:=Lib.hid (show setB (nB d) (alwP (offsD d) l)=setB (nB d) (alwM (offsD d) l) from setB_ext fun x=>(alwM_mem _ _ x).symm)
   rw [HP.out] at HROW
   go_wp2_with fail
   go_ret
   exact ⟨_,rfl,HROW.out,HXR.out⟩
theorem alwR_calls {d:Flat} (hok:d.ok) (hck:checkM d=0) (l:List T) (hst:∀ t ∈ l,StD d.signals t) (hnb:sumBy nodesT l ≤ 1048576):AlwRSaid d l:=by
 have key:∀ t:T,StD d.signals t→nodesT t ≤ 1048576→AlwRSaid d t.l∧∀ x ∈ t.l,AlwRSaid d x.l:=by
  intro t
  induction t using T.ind with
  | h t ih =>
   intro h1 h2
   have h3:=((StD_iff d.signals t).1 h1).2.2.2
   have h4:=nodesT_eq t
   have ih':∀ x ∈ t.l,AlwRSaid d x.l∧∀ y ∈ x.l,AlwRSaid d y.l:=fun x hx=>ih x hx (h3 x hx) (by have:=le_sumBy nodesT t.l x hx;omega)
   exact ⟨alwR_step hok hck t.l h3 (by omega) (fun x hx=>(ih' x hx).1) (fun x hx=>(ih' x hx).2),fun x hx=>(ih' x hx).1⟩
 exact alwR_step hok hck l hst hnb (fun t ht=>(key t (hst t ht) (by have:=le_sumBy nodesT l t ht;omega)).1) (fun t ht=>(key t (hst t ht) (by have:=le_sumBy nodesT l t ht;omega)).2)
end Go.Proofs.YthpemngachlehaaGreat
