/- Laws and walks that a claim of this seat leans on: FoldL, Fold1, Fold2. -/
import Derived.Test.YtemabheegnngdaaGreatV15
import Derived.Test.YtemabheegnngdaaGreatV14
import Derived.Test.YtemabheegnngdaaGreatV18
import Derived.Test.YtemabheegnngdaaGreatV00
set_option linter.all false
namespace Go.Proofs.YtemabheegnngdaaGreat
open Go.RowKit
def E.with (e:E) (l:List E):E:=⟨e.op,e.w,e.v,e.sig,e.hi,e.lo,e.n,l⟩
def isNum (e:E):Bool:=decide (e.op=1)
def hdE (l:List E):E:=l.headD zE
def foldN (ls:List Signal) (e:E) (l:List E):E :=
 if l.length=0 then e
 else if e.op=3∧isNum (hdE l)=true∧(hdE l).v < sigW ls e.sig then ⟨2,1,0,e.sig,(hdE l).v,(hdE l).v,0,[]⟩
 else if e.op=6∧isNum (hdE l)=true then l.getD (2 - (hdE l).v).toNat zE
 else if l.all isNum=false then e.with l
 else ⟨1,e.w,evM [] (e.with l),0,0,0,0,[]⟩
def foldM (ls:List Signal):E→E
 | ⟨op,w,v,sig,hi,lo,n,l⟩=>foldN ls ⟨op,w,v,sig,hi,lo,n,l⟩ (all l)
where all:List E→List E
 | []=>[]
 | e :: l=>foldM ls e :: all l
theorem foldM_eq (ls:List Signal) (e:E):foldM ls e=foldN ls e (e.l.map (foldM ls)):=by
 have h:∀ l,foldM.all ls l=l.map (foldM ls):=by
  intro l;induction l with
  | nil=>rfl
  | cons x l ih=>rw [foldM.all,ih];rfl
 cases e;rw [foldM,h]
theorem with_wf {e:E} {l:List E} (hwf:e.wf) (hl:∀ x ∈ l,x.wf):(e.with l).wf:=by
 obtain ⟨h1,h2,h3,h4,h5,h6,h7,-⟩:=(E.wf_iff e).1 hwf
 exact (E.wf_iff _).2 ⟨h1,h2,h3,h4,h5,h6,h7,hl⟩
theorem with_ws {ls:List Signal} {e:E} {l:List E} (h0:wsN ls e.op e.w e.v e.sig e.hi e.lo e.n (l.map (·.w))) (hl:∀ x ∈ l,WS ls x):WS ls (e.with l):=(WS_iff ls _).2 ⟨h0,hl⟩
theorem with_self (e:E):e.with e.l=e:=by cases e;rfl
theorem ws_num {ls:List Signal} {x:E} (h:WS ls x) (hn:isNum x=true):1 ≤ x.w∧x.w ≤ 64∧holds x.w x.v=true∧x.l=[]∧x.op=1:=by
 have ho:x.op=1:=of_decide_eq_true hn
 obtain ⟨h0,-⟩:=(WS_iff ls x).1 h
 unfold wsN at h0
 rcases h0 with ⟨-,h1,h2,h3,h4,-⟩ | h0 | h0 | h0 | h0 | h0 | h0 | h0
 ·exact ⟨h2,h3,h4,by simpa using h1,ho⟩
 all_goals (exfalso;have:=h0.1;omega)
theorem ws_num_lt {ls:List Signal} {x:E} (h:WS ls x) (hwf:x.wf) (hn:isNum x=true):0 ≤ x.v∧x.v.toNat < 2 ^ x.w.toNat:=by
 obtain ⟨h1,h2,h3,-⟩:=ws_num h hn
 have hv:=((E.wf_iff x).1 hwf).2.2.1
 exact ⟨hv.1,(holds_lt hv.1 (by have:=hv.2;omega) (by omega)).1 h3⟩
theorem ws_cond {ls:List Signal} {e:E} {l:List E} (h0:wsN ls e.op e.w e.v e.sig e.hi e.lo e.n (l.map (·.w))) (ho:e.op=6):∃ c x y,l=[c,x,y]∧c.w=1∧x.w=e.w∧y.w=e.w:=by
 unfold wsN at h0
 rcases h0 with h0 | h0 | h0 | h0 | h0 | ⟨-,hk,-⟩ | h0 | h0
 case inr.inr.inr.inr.inr.inl=>exact map3 hk
 all_goals (exfalso;have:=h0.1;omega)
theorem ws_idx {ls:List Signal} {e:E} {l:List E} (h0:wsN ls e.op e.w e.v e.sig e.hi e.lo e.n (l.map (·.w))) (ho:e.op=3):∃ x,l=[x]∧0 ≤ e.sig∧e.sig < ls.length∧e.w=1:=by
 unfold wsN at h0
 rcases h0 with h0 | h0 | ⟨-,⟨k,hk⟩,h1,h2,h3,-⟩ | h0 | h0 | h0 | h0 | h0
 case inr.inr.inl=>obtain ⟨x,rfl,-⟩:=map1 hk;exact ⟨x,rfl,h1,h2,h3⟩
 all_goals (exfalso;have:=h0.1;omega)
theorem cond_told {ls:List Signal} {c:E} (h:WS ls c) (hwf:c.wf) (hw:c.w=1) (hn:isNum c=true):c.v=0 ∨ c.v=1:=by
 obtain ⟨h1,h2⟩:=ws_num_lt h hwf hn
 rw [hw] at h2
 have:(2:Nat) ^ (1:Int).toNat=2:=rfl
 omega
theorem foldN_ws {ls:List Signal} (hls:∀ x ∈ ls,x.w ≤ 64) {e:E} {l:List E} (h0:wsN ls e.op e.w e.v e.sig e.hi e.lo e.n (l.map (·.w))) (hl:∀ x ∈ l,WS ls x∧x.wf) (hlen:l.length=e.l.length) (hwf:e.wf) :
  WS ls (foldN ls e l)∧(foldN ls e l).w=e.w∧(foldN ls e l).wf:=by
 have hW:=with_ws h0 fun x hx=>(hl x hx).1
 have hF:=with_wf hwf fun x hx=>(hl x hx).2
 unfold foldN
 by_cases c0:l.length=0
 ·rw [if_pos c0]
  have h1:l=[]:=List.eq_nil_of_length_eq_zero c0
  have h2:e.l=[]:=List.eq_nil_of_length_eq_zero (by omega)
  subst h1
  rw [← h2,with_self] at hW
  exact ⟨hW,rfl,hwf⟩
 rw [if_neg c0]
 by_cases c1:e.op=3∧isNum (hdE l)=true∧(hdE l).v < sigW ls e.sig
 ·rw [if_pos c1]
  obtain ⟨x,rfl,h1,h2,h3⟩:=ws_idx h0 c1.1
  obtain ⟨q1,q2⟩:=hl x (by simp)
  have hx:hdE [x]=x:=rfl
  rw [hx] at c1 ⊢
  obtain ⟨q3,-⟩:=ws_num_lt q1 q2 c1.2.1
  have hsw:=sigW_le ls hls e.sig
  refine ⟨(WS_iff ls _).2 ⟨.inr (.inl ⟨rfl,rfl,?_,by simp,rfl,rfl⟩),by simp⟩,h3.symm,(E.wf_iff _).2 ?_⟩
  ·unfold slice
   simp only [Bool.and_eq_true,decide_eq_true_eq]
   exact ⟨⟨⟨⟨h1,h2⟩,q3⟩,Int.le_refl _⟩,c1.2.2⟩
  ·have h4:=((E.wf_iff e).1 hwf).2.2.2.1
   unfold i64r u64r at *
   simp
   omega
 rw [if_neg c1]
 by_cases c2:e.op=6∧isNum (hdE l)=true
 ·rw [if_pos c2]
  obtain ⟨c,x,y,rfl,h1,h2,h3⟩:=ws_cond h0 c2.1
  have hx:hdE [c,x,y]=c:=rfl
  rw [hx] at c2 ⊢
  rcases cond_told (hl c (by simp)).1 (hl c (by simp)).2 h1 c2.2 with hv | hv
  ·rw [hv];exact ⟨(hl y (by simp)).1,h3,(hl y (by simp)).2⟩
  ·rw [hv];exact ⟨(hl x (by simp)).1,h2,(hl x (by simp)).2⟩
 rw [if_neg c2]
 by_cases c3:l.all isNum=false
 ·rw [if_pos c3];exact ⟨hW,rfl,hF⟩
 rw [if_neg c3]
 obtain ⟨o1,o2,o3⟩:=ws_own hls _ hW
 have hlt:=ev_lt (vs:=[]) hls _ hW hF
 have o2':1 ≤ e.w:=o2
 have o3':e.w ≤ 64:=o3
 have hlt':evM [] (e.with l) < 2 ^ e.w.toNat:=hlt
 have h64:evM [] (e.with l) < 18446744073709551616:=Nat.lt_of_lt_of_le hlt' (Nat.le_trans (Nat.pow_le_pow_right (by decide) (show e.w.toNat ≤ 64 by omega)) (by decide))
 generalize evM [] (e.with l)=V at *
 refine ⟨(WS_iff ls _).2 ⟨.inl ⟨rfl,rfl,o2',o3',?_,rfl,rfl,rfl,rfl⟩,by simp⟩,rfl,(E.wf_iff _).2 ?_⟩
 ·exact (holds_lt (w:=e.w) (v:=(V:Int)) (Int.natCast_nonneg _) (by omega) (by omega)).2 hlt'
 ·unfold i64r u64r
  simp
  omega
theorem foldM_ws {ls:List Signal} (hls:∀ x ∈ ls,x.w ≤ 64) (e:E):WS ls e→e.wf→WS ls (foldM ls e)∧(foldM ls e).w=e.w∧(foldM ls e).wf:=by
 induction e using E.ind with
 | h e ih =>
  intro h hwf
  obtain ⟨h0,hp⟩:=(WS_iff ls e).1 h
  have hwp:=((E.wf_iff e).1 hwf).2.2.2.2.2.2.2
  have ih2:=fun x hx=>ih x hx (hp x hx) (hwp x hx)
  rw [foldM_eq]
  refine foldN_ws hls ?_ ?_ (by simp) hwf
  ·rw [List.map_map]
   rw [show e.l.map ((·.w) ∘ foldM ls)=e.l.map (·.w) from List.map_congr_left fun x hx=>(ih2 x hx).2.1]
   exact h0
  ·intro x hx
   obtain ⟨y,hy,rfl⟩:=List.mem_map.1 hx
   exact ⟨(ih2 y hy).1,(ih2 y hy).2.2⟩
theorem foldM_map {ls:List Signal} (hls:∀ x ∈ ls,x.w ≤ 64) {e:E} (h:WS ls e) (hwf:e.wf) :
  wsN ls e.op e.w e.v e.sig e.hi e.lo e.n ((e.l.map (foldM ls)).map (·.w))∧(∀ x ∈ e.l.map (foldM ls),WS ls x∧x.wf)∧(e.l.map (foldM ls)).map (·.w)=e.l.map (·.w):=by
 obtain ⟨h0,hp⟩:=(WS_iff ls e).1 h
 have hwp:=((E.wf_iff e).1 hwf).2.2.2.2.2.2.2
 have ih2:=fun x hx=>foldM_ws hls x (hp x hx) (hwp x hx)
 have hm:(e.l.map (foldM ls)).map (·.w)=e.l.map (·.w):=by
  rw [List.map_map];exact List.map_congr_left fun x hx=>(ih2 x hx).2.1
 refine ⟨by rw [hm];exact h0,fun x hx=>?_,hm⟩
 obtain ⟨y,hy,rfl⟩:=List.mem_map.1 hx
 exact ⟨(ih2 y hy).1,(ih2 y hy).2.2⟩
theorem foldN_nodes (ls:List Signal) (e:E) (l:List E) (h:sumBy nodes l ≤ sumBy nodes e.l) (hd:maxBy deep l ≤ maxBy deep e.l):nodes (foldN ls e l) ≤ nodes e∧deep (foldN ls e l) ≤ deep e:=by
 have hn:=nodes_eq e
 have hdd:=deep_eq e
 unfold foldN
 by_cases c0:l.length=0
 ·rw [if_pos c0];exact ⟨Nat.le_refl _,Nat.le_refl _⟩
 rw [if_neg c0]
 by_cases c1:e.op=3∧isNum (hdE l)=true∧(hdE l).v < sigW ls e.sig
 ·rw [if_pos c1,nodes_eq,deep_eq];simp [sumBy,maxBy];omega
 rw [if_neg c1]
 by_cases c2:e.op=6∧isNum (hdE l)=true
 ·rw [if_pos c2]
  cases hq:l[(2 - (hdE l).v).toNat]? with
  | none=>rw [List.getD_eq_getElem?_getD,hq,Option.getD_none,nodes_eq,deep_eq];simp [zE,sumBy,maxBy];omega
  | some x =>
   rw [List.getD_eq_getElem?_getD,hq,Option.getD_some]
   have hm:=List.mem_of_getElem? hq
   have h1:=le_sumBy nodes l x hm
   have h2:deep x ≤ maxBy deep l:=by
    clear h hd c0 c1 c2 hq h1
    induction l with
    | nil=>cases hm
    | cons y l ih =>
     rw [maxBy]
     rcases List.mem_cons.1 hm with rfl | hm
     ·omega
     ·have:=ih hm;omega
   omega
 rw [if_neg c2]
 by_cases c3:l.all isNum=false
 ·rw [if_pos c3,nodes_eq,deep_eq];simp only [E.with];omega
 rw [if_neg c3,nodes_eq,deep_eq];simp [sumBy,maxBy];omega
theorem foldM_nodes (ls:List Signal) (e:E):nodes (foldM ls e) ≤ nodes e∧deep (foldM ls e) ≤ deep e:=by
 induction e using E.ind with
 | h e ih =>
  rw [foldM_eq]
  refine foldN_nodes ls e _ ?_ ?_
  ·generalize e.l=l at ih
   induction l with
   | nil=>exact Nat.le_refl _
   | cons x l ihl =>
    have:=(ih x (by simp)).1
    have:=ihl fun y hy=>ih y (by simp [hy])
    rw [List.map_cons,sumBy,sumBy];omega
  ·generalize e.l=l at ih
   induction l with
   | nil=>exact Nat.le_refl _
   | cons x l ihl =>
    have:=(ih x (by simp)).2
    have:=ihl fun y hy=>ih y (by simp [hy])
    rw [List.map_cons,maxBy,maxBy];omega
theorem foldM_with_nodes (ls:List Signal) (e:E):nodes (e.with (e.l.map (foldM ls))) ≤ nodes e:=by
 rw [nodes_eq,nodes_eq e]
 simp only [E.with]
 have:∀ l:List E,sumBy nodes (l.map (foldM ls)) ≤ sumBy nodes l:=by
  intro l
  induction l with
  | nil=>exact Nat.le_refl _
  | cons x l ih=>have:=(foldM_nodes ls x).1;rw [List.map_cons,sumBy,sumBy];omega
 have:=this e.l
 omega
open Go.RowKit
theorem RowIs.get {α : Type} {V:World→List Value→α→Prop} {e:TypeId} {size N g n cap:Nat} {r:List α} {w:World} (h:RowIs V e size N (.slice (some ⟨g,0,none⟩) n cap) r w) {k:Nat} (hk:k < r.length) :
  ∃ cs,Has w g (k * size) cs∧cs.length=size∧FV V N w cs r[k]:=by
 obtain ⟨css,h1,h2,h3,h4⟩:=h
 have hk':k < css.length:=by omega
 refine ⟨css[k],?_,h3 _ (List.getElem_mem hk'),fun W hW=>h4 k hk' hk W hW.1 fun b hN hlt _=>hW.2 b hN hlt⟩
 have hflat:∀ (css:List (List Value)) (k:Nat) (hk:k < css.length),(∀ c ∈ css,c.length=size)→∀ j u,css[k][j]? = some u→css.flatten[k * size + j]? = some u:=by
  intro css
  induction css with
  | nil=>intro k hk;simp at hk
  | cons c css ih =>
   intro k hk h8 j u hj
   have hc:c.length=size:=h8 c (by simp)
   cases k with
   | zero =>
    rw [Jb] at hj
    rw [List.flatten_cons,Nat.zero_mul,Nat.zero_add,List.getElem?_append_left (List.getElem?_eq_some_iff.1 hj).1];exact hj
   | succ k =>
    rw [Jc] at hj
    rw [List.flatten_cons,List.getElem?_append_right (by rw [Nat.succ_mul];omega),hc,show (k + 1) * size + j - size=k * size + j by rw [Nat.succ_mul];omega]
    exact ih k (by simpa using hk) (fun c hc=>h8 c (by simp [hc])) j u hj
 intro j u hj
 have:=h1.cells (g:=g) rfl _ u (hflat css k hk' h3 j u hj)
 have hadd:(⟨g,0,none⟩ : Addr).add (k * size + j)=⟨g,k * size + j,none⟩:=by unfold Addr.add;split <;> simp_all
 rw [hadd] at this
 exact this
theorem VE.none {w W:World} {e:E} {s:Value} (hl:e.l=[]) (h:Es w s e.l):VE W (e.cells s) e:=by
 refine ⟨s,rfl,?_⟩
 rw [hl] at h ⊢
 obtain ⟨b,o,h1,-⟩:=h
 exact ⟨b,o,h1,trivial⟩
set_option maxHeartbeats 400000 in
theorem number_calls (x:E) (cs:List Value) (w:World) (h:VE w cs x):Calls Tryz.prog 100 #[.agg cs.toArray] w fun r w'=>r=.returned (.bool (isNum x))∧Ext w w':=by
 obtain ⟨s,rfl,-⟩:=h
 have hX:=ext_alloc w (.cells (x.cells s).toArray 44)
 have hE:=Blk.new w (x.cells s).toArray 44
 have g0:=hE.has 0 _ rfl
 clear hE
 obtain ⟨q,hq⟩ : ∃ q,isNum x=q:=⟨_,rfl⟩
 have HQ:=Lib.hid hq
 rw [hq]
 clear hq
 cases q
 ·have b0:(x.op == 1)=false:=by rw [beq_eq_false_iff_ne];exact of_decide_eq_false HQ.out
  go_enter Tryz.func100,Tryz.ntmps100
  go_wp2_with fail
  go_ret
  exact ⟨by first | rfl | rw [b0] | simp [b0],hX⟩
 ·have b0:(x.op == 1)=true:=by rw [beq_iff_eq];exact of_decide_eq_true HQ.out
  go_enter Tryz.func100,Tryz.ntmps100
  go_wp2_with fail
  go_ret
  exact ⟨by first | rfl | rw [b0] | simp [b0],hX⟩
theorem vals_nil (ls:List Signal):Vals ls []:=fun sig _ _=>by show ([]:List Nat).getD sig.toNat 0 < _;rw [List.getD_nil];exact Nat.two_pow_pos _
theorem leads_f11:Leads Tryz.prog 102:=leads_of Tryz.func102 (by kernel_rfl) rfl
theorem leads_f12:Leads Tryz.prog 103:=leads_of Tryz.func103 (by kernel_rfl) rfl
theorem leads_f1:Leads Tryz.prog 99:=leads_of Tryz.func99 (by kernel_rfl) rfl
set_option maxRecDepth 100000 in
set_option maxHeartbeats 400000 in
theorem f11_calls (x:E) (cs:List Value) (w:World) (h:VE w cs x):Calls Tryz.prog 102 #[.agg cs.toArray] w fun r w'=>r=.returned (.bool (!isNum x))∧Ext w w':=by
 have h8:cs.length=8:=by obtain ⟨s,rfl,-⟩:=h;rfl
 have hX:=ext_alloc w (.cells cs.toArray 44)
 have hE:=Blk.new w cs.toArray 44
 have g0:=hE.has
 have HC:=Lib.hid (number_calls x cs _ (h.ext hX))
 clear hE
 go_enter Tryz.func102,Tryz.ntmps102
 go_upto_region 1 with fail
 generalize w.alloc _=w0 at *
 go_wp2_with (first | ((with_reducible show Jw (Op.load 44 _));refine wpList_load_has rfl 44 _ rfl rfl (g0) agg_E h8 ?_) | (go_at_call 100;refine (HC.out).mono ?_;rintro r w1 ⟨rfl,hx1⟩))
 go_ret
 exact ⟨rfl,hX.trans hx1⟩
theorem look_zero (wb:World) (ls:List Signal):Looks wb ls [] (.func (.func 103) #[] #[]):=by
 refine ⟨_,_,rfl,leads_f12,fun W hW sig h0 h1=>?_⟩
 show Calls Tryz.prog 103 #[.int .i64 sig] W _
 go_enter Tryz.func103,Tryz.ntmps103
 go_wp2_with fail
 go_ret
 exact ⟨rfl,Below.refl _ _⟩
theorem folded_calls (sv pv cv:Value) (h1 : [sv,pv,cv].all (·.oneCell')=true) (w:World) :
  Calls Tryz.prog 57 #[.agg #[sv,pv,cv]] w fun r w'=>∃ D,r=.returned (.func (.func 99) #[] #[.pointer (some ⟨D,0,none⟩)])∧Ext w w'∧Blk w' D #[sv,pv,cv] 26:=by
 have x1:=ext_alloc w (.cells #[sv,pv,cv] 26)
 have hD:=Blk.new w #[sv,pv,cv] 26
 go_enter Tryz.func57,Tryz.ntmps57
 go_wp2_with fail
 go_ret
 exact ⟨_,rfl,x1,hD⟩
open Go.RowKit
theorem fv_leafE (N:Nat) (w:World) (x:E) (h:x.l=[]):FV VE N w (x.cells (.slice none 0 0)) x:=fun _ _=>⟨_,rfl,by rw [h];exact Sl.nil _ _⟩
set_option maxRecDepth 100000 in
set_option maxHeartbeats 2000000 in
theorem f1_other_part {wb:World} {ls:List Signal} {D M g cap:Nat} {sv pv cv s0:Value} (e x:E) (l:List E) (w:World) (hone : [sv,pv,cv].all (·.oneCell')=true) (hD:Blk wb D #[sv,pv,cv] 26) (hS:Sigs wb sv ls) (hx:Ext wb w) (hM:M ≤ w.heap.size) (hE0:Es w s0 e.l) (hrow:RowIs VE 44 8 M (.slice (some ⟨g,0,none⟩) (x :: l).length cap) (x :: l) w) (b3:(e.op == 3)=false) (b6:(e.op == 6)=false) (hany:(x :: l).any (fun x=>!isNum x)=true) :
  Calls Tryz.prog 99 #[.agg (e.cells s0).toArray,.slice (some ⟨g,0,none⟩) (x :: l).length cap,.pointer (some ⟨D,0,none⟩)] w fun r w'=>∃ cs',r=.returned (.agg cs'.toArray)∧FV VE M w' cs' (e.with (x :: l))∧Ext w w':=by
 obtain ⟨csx,hx0,hx8,hxf⟩:=hrow.get (k:=0) (by simp)
 rw [Nat.zero_mul] at hx0
 rw [Jb] at hxf
 obtain ⟨sx,rfl,-⟩:=hxf.here
 have hn0:(x :: l).length=l.length + 1:=rfl
 have HROW:=Lib.hid hrow
 have HXF:=Lib.hid hxf
 have HD:=Lib.hid (fun W (h:Ext w W)=>hD.ext (hx.trans h))
 have HSG:=Lib.hid (fun W (h:Ext w W)=>hS.ext (hx.trans h))
 have HM:=Lib.hid hM
 have x1:=ext_alloc w (.cells (e.cells s0).toArray 44)
 have x2:=ext_alloc (w.alloc (.cells (e.cells s0).toArray 44)) (.cells (zE.cells (.slice none 0 0)).toArray 44)
 have hE:=(Blk.new w (e.cells s0).toArray 44).ext x2
 have hR:=Blk.new (w.alloc (.cells (e.cells s0).toArray 44)) (zE.cells (.slice none 0 0)).toArray 44
 have hX:=x1.trans x2
 have hx1:=(hx0.ext hX)
 have HSZ:=Lib.hid (show ((w.alloc (.cells (e.cells s0).toArray 44)).alloc (.cells (zE.cells (.slice none 0 0)).toArray 44)).heap.size=w.heap.size + 1 + 1 by simp only [World.size_alloc])
 simp only [World.size_alloc] at hR
 have HE00:=Lib.hid hE0
 clear x1 x2 hx0 hxf hrow hM hD hS hx hE0
 rw [hn0] at *
 rw [zE_cells] at *
 have HN:=Lib.hid (fun W (h:Ext w W)=>number_calls x _ W ((HXF.out.ext h).here))
 go_enter Tryz.func99,Tryz.ntmps99
 go_upto_region 1 with fail
 generalize (w.alloc _).alloc _=w0 at *
 have HE:=Lib.hid hE
 have HR:=Lib.hid hR
 have HX:=Lib.hid hX
 clear hE hR hX
 have q1:((l.length:Int) + 1 == 0)=false:=by rw [beq_eq_false_iff_ne];omega
 have q2:decide ((0:Int) < (l.length:Int) + 1)=true:=decide_eq_true (by omega)
 go_upto_region 2 with (first | ((with_reducible show Jw (Op.load 44 _));refine wpList_load_has rfl 44 _ rfl rfl (hx1) agg_E hx8 ?_) | (go_at_call 100;refine (HN.out _ HX.out).mono ?_;rintro r w1 ⟨rfl,hy1⟩))
 replace HE:=Lib.hid (HE.out.ext hy1)
 replace HR:=Lib.hid (HR.out.ext hy1)
 have HX1:=Lib.hid (HX.out.trans hy1)
 have hx2:=hx1.ext hy1
 clear hy1 hx1 HN q2
 have k0:=HE.out.has 0 _ rfl
 go_upto_region 4 with fail
 go_quiet (fail)
 replace HX:=Lib.hid (HX1.out.drewNB nq)
 replace HE:=Lib.hid (HE.out.drewN nq)
 replace HR:=Lib.hid (HR.out.drewN nq)
 clear k0 HX1 hx2 hx8
 generalize w1.drewN nq=w2 at *
 have g1:=HE.out.cell 7
 have f1:=HE.out.frozen 7
 simp only [E.cells,List.getElem?_toArray,List.getElem?_cons_zero,List.getElem?_cons_succ] at g1
 have k0:=HE.out.has 0 _ rfl
 go_upto_region 10 with fail
 clear f1 g1 k0
 have hset:((e.cells s0).toArray.setIfInBounds 7 (.slice (some ⟨g,0,none⟩) (l.length + 1) cap))=((e.with (x :: l)).cells (.slice (some ⟨g,0,none⟩) (l.length + 1) cap)).toArray:=rfl
 have hb3:=HE.out.set 7 (.slice (some ⟨g,0,none⟩) (l.length + 1) cap)
 rw [hset] at hb3
 clear hset
 have hg3:=gb_set w2 w.heap.size 7 (.slice (some ⟨g,0,none⟩) (l.length + 1) cap)
 replace HR:=Lib.hid (HR.out.grown hg3 (by omega))
 replace HX:=Lib.hid (HX.out.grown hg3 (Nat.le_refl _))
 replace HE:=Lib.hid hb3
 clear hb3 hg3
 generalize w2.setCell _ _=w3 at *
 have hrow3:=HROW.out.since (Since.of_ext (N:=M) HX.out)
 have hfv3:FV VE M w ((e.with (x :: l)).cells (.slice (some ⟨g,0,none⟩) (l.length + 1) cap)) (e.with (x :: l)):=fun W hW=>⟨_,rfl,RowIs.sl (V:=VE) (At:=EAt) (fun _ _ _ _ _ h hv=>VE.at h hv) HROW.out hW⟩
 have HFV:=Lib.hid hfv3
 have HSL:=Lib.hid (hrow3.sl (V:=VE) (At:=EAt) (fun _ _ _ _ _ h hv=>VE.at h hv) (Since.refl _ _))
 clear hrow3 hfv3
 have HCF:=Lib.hid (ContainsFunc_E 102 #[] (fun x=>!isNum x) (x :: l) _ w3 HSL.out leads_f11 (fun wr hr k hk cs hv=>f11_calls _ cs wr hv))
 rw [show (x :: l).any (fun x=>!isNum x)=true from hany] at HCF
 clear hany
 go_wp2_with (first | (go_at_call 101;refine HCF.out.mono ?_;rintro r w4 ⟨rfl,hx4⟩;have hb4:=(HE.out.ext hx4).has) | ((with_reducible show Jw (Op.load 44 _));refine wpList_load_has rfl 44 _ rfl rfl (hb4) agg_E rfl ?_) | ((with_reducible show Jw (Op.store 44 _ _));refine wpList_store_blk rfl 44 _ _ rfl (HR.out.ext hx4) rfl (cs:=(e.with (x :: l)).cells (.slice (some ⟨g,0,none⟩) (l.length + 1) cap)) (rfl) agg_E (rfl) rfl (rfl) ?_;intro w6 hb6 hg6) | ((with_reducible show bodyPost _ _ _ _ _ _);refine Hid.out ?_))
 refine Lib.hid ?_
 refine post_ret_blk rfl rfl hb6.has agg_E rfl rfl ⟨_,rfl,?_,?_⟩
 ·exact HFV.out.ext ((HX.out.trans hx4).grown hg6 (by omega))
 ·exact (HX.out.trans hx4).grown hg6 (by omega)
set_option maxRecDepth 100000 in
set_option maxHeartbeats 2000000 in
theorem f1_other_num {wb:World} {ls:List Signal} {D M g cap:Nat} {sv pv cv s0:Value} (e x:E) (l:List E) (w:World) (hone : [sv,pv,cv].all (·.oneCell')=true) (hD:Blk wb D #[sv,pv,cv] 26) (hS:Sigs wb sv ls) (hx:Ext wb w) (hM:M ≤ w.heap.size) (hE0:Es w s0 e.l) (hrow:RowIs VE 44 8 M (.slice (some ⟨g,0,none⟩) (x :: l).length cap) (x :: l) w) (b3:(e.op == 3)=false) (b6:(e.op == 6)=false) (hany:(x :: l).any (fun x=>!isNum x)=false) (hls:∀ x ∈ ls,1 ≤ x.w∧x.w ≤ 64) (hws:WS ls (e.with (x :: l))) (hwf:(e.with (x :: l)).wf) (hnn:nodes (e.with (x :: l)) ≤ 1048576) :
  Calls Tryz.prog 99 #[.agg (e.cells s0).toArray,.slice (some ⟨g,0,none⟩) (x :: l).length cap,.pointer (some ⟨D,0,none⟩)] w fun r w'=>∃ cs',r=.returned (.agg cs'.toArray)∧FV VE M w' cs' (⟨1,e.w,evM [] (e.with (x :: l)),0,0,0,0,[]⟩)∧Ext w w':=by
 obtain ⟨V,hV⟩ : ∃ V,evM [] (e.with (x :: l))=V:=⟨_,rfl⟩
 have HV:=Lib.hid hV
 rw [hV]
 clear hV
 obtain ⟨csx,hx0,hx8,hxf⟩:=hrow.get (k:=0) (by simp)
 rw [Nat.zero_mul] at hx0
 rw [Jb] at hxf
 obtain ⟨sx,rfl,-⟩:=hxf.here
 have hn0:(x :: l).length=l.length + 1:=rfl
 have HROW:=Lib.hid hrow
 have HXF:=Lib.hid hxf
 have HD:=Lib.hid (fun W (h:Ext w W)=>hD.ext (hx.trans h))
 have HSG:=Lib.hid (fun W (h:Ext w W)=>hS.ext (hx.trans h))
 have HM:=Lib.hid hM
 have x1:=ext_alloc w (.cells (e.cells s0).toArray 44)
 have x2:=ext_alloc (w.alloc (.cells (e.cells s0).toArray 44)) (.cells (zE.cells (.slice none 0 0)).toArray 44)
 have hE:=(Blk.new w (e.cells s0).toArray 44).ext x2
 have hR:=Blk.new (w.alloc (.cells (e.cells s0).toArray 44)) (zE.cells (.slice none 0 0)).toArray 44
 have hX:=x1.trans x2
 have hx1:=(hx0.ext hX)
 have HSZ:=Lib.hid (show ((w.alloc (.cells (e.cells s0).toArray 44)).alloc (.cells (zE.cells (.slice none 0 0)).toArray 44)).heap.size=w.heap.size + 1 + 1 by simp only [World.size_alloc])
 simp only [World.size_alloc] at hR
 have HE00:=Lib.hid hE0
 clear x1 x2 hx0 hxf hrow hM hD hS hx hE0
 rw [hn0] at *
 rw [zE_cells] at *
 have HN:=Lib.hid (fun W (h:Ext w W)=>number_calls x _ W ((HXF.out.ext h).here))
 go_enter Tryz.func99,Tryz.ntmps99
 go_upto_region 1 with fail
 generalize (w.alloc _).alloc _=w0 at *
 have HE:=Lib.hid hE
 have HR:=Lib.hid hR
 have HX:=Lib.hid hX
 clear hE hR hX
 have q1:((l.length:Int) + 1 == 0)=false:=by rw [beq_eq_false_iff_ne];omega
 have q2:decide ((0:Int) < (l.length:Int) + 1)=true:=decide_eq_true (by omega)
 go_upto_region 2 with (first | ((with_reducible show Jw (Op.load 44 _));refine wpList_load_has rfl 44 _ rfl rfl (hx1) agg_E hx8 ?_) | (go_at_call 100;refine (HN.out _ HX.out).mono ?_;rintro r w1 ⟨rfl,hy1⟩))
 replace HE:=Lib.hid (HE.out.ext hy1)
 replace HR:=Lib.hid (HR.out.ext hy1)
 have HX1:=Lib.hid (HX.out.trans hy1)
 have hx2:=hx1.ext hy1
 clear hy1 hx1 HN q2
 have k0:=HE.out.has 0 _ rfl
 go_upto_region 4 with fail
 go_quiet (fail)
 replace HX:=Lib.hid (HX1.out.drewNB nq)
 replace HE:=Lib.hid (HE.out.drewN nq)
 replace HR:=Lib.hid (HR.out.drewN nq)
 clear k0 HX1 hx2 hx8
 generalize w1.drewN nq=w2 at *
 have g1:=HE.out.cell 7
 have f1:=HE.out.frozen 7
 simp only [E.cells,List.getElem?_toArray,List.getElem?_cons_zero,List.getElem?_cons_succ] at g1
 have k0:=HE.out.has 0 _ rfl
 go_upto_region 10 with fail
 clear f1 g1 k0
 have hset:((e.cells s0).toArray.setIfInBounds 7 (.slice (some ⟨g,0,none⟩) (l.length + 1) cap))=((e.with (x :: l)).cells (.slice (some ⟨g,0,none⟩) (l.length + 1) cap)).toArray:=rfl
 have hb3:=HE.out.set 7 (.slice (some ⟨g,0,none⟩) (l.length + 1) cap)
 rw [hset] at hb3
 clear hset
 have hg3:=gb_set w2 w.heap.size 7 (.slice (some ⟨g,0,none⟩) (l.length + 1) cap)
 replace HR:=Lib.hid (HR.out.grown hg3 (by omega))
 replace HX:=Lib.hid (HX.out.grown hg3 (Nat.le_refl _))
 replace HE:=Lib.hid hb3
 clear hb3 hg3
 generalize w2.setCell _ _=w3 at *
 have hrow3:=HROW.out.since (Since.of_ext (N:=M) HX.out)
 have hfv3:FV VE M w ((e.with (x :: l)).cells (.slice (some ⟨g,0,none⟩) (l.length + 1) cap)) (e.with (x :: l)):=fun W hW=>⟨_,rfl,RowIs.sl (V:=VE) (At:=EAt) (fun _ _ _ _ _ h hv=>VE.at h hv) HROW.out hW⟩
 have HFV:=Lib.hid hfv3
 have HSL:=Lib.hid (hrow3.sl (V:=VE) (At:=EAt) (fun _ _ _ _ _ h hv=>VE.at h hv) (Since.refl _ _))
 clear hrow3 hfv3
 have HCF:=Lib.hid (ContainsFunc_E 102 #[] (fun x=>!isNum x) (x :: l) _ w3 HSL.out leads_f11 (fun wr hr k hk cs hv=>f11_calls _ cs wr hv))
 rw [show (x :: l).any (fun x=>!isNum x)=false from hany] at HCF
 clear hany
 go_upto_region 12 with (first | (go_at_call 101;refine HCF.out.mono ?_;rintro r w4 ⟨rfl,hx4⟩))
 have HX4:=Lib.hid (HX.out.trans hx4)
 have HE4:=Lib.hid (HE.out.ext hx4)
 have HR4:=Lib.hid (HR.out.ext hx4)
 have HLS:=Lib.hid hls
 have HWS:=Lib.hid hws
 have HWF:=Lib.hid hwf
 have HNN:=Lib.hid hnn
 clear hx4 hls hws hwf hnn
 refine wp_region_held_drew (S:=fun W=>Ext w W∧Blk W w.heap.size ((e.with (x :: l)).cells (.slice (some ⟨g,0,none⟩) (l.length + 1) cap)).toArray 44) (by kernel_rfl) ⟨HX4.out.drew,HE4.out.drew⟩ (fun hHeld=>?_)
 try simp only [J]
 (refine Jt 0 (_) rfl (yif_load1 rfl fun _ _=>rfl) hHeld ?_;try simp only [J])
 (refine Jt 1 (.int .i64 e.w) rfl (yif_load1 rfl (by intro W hW;have y:=hW.2.has 1 _ rfl;clear hW;simp only [E.with] at y;go_simp)) hHeld ?_;try simp only [J])
 (refine Jt 2 (.agg ((e.with (x :: l)).cells (.slice (some ⟨g,0,none⟩) (l.length + 1) cap)).toArray) rfl (yif_load rfl 44 _ rfl rfl (fun W hW=>hW.2.has) agg_E rfl) hHeld ?_;try simp only [J])
 (refine Jt 3 (.agg #[sv,pv,cv]) rfl (yif_load rfl 26 _ rfl rfl (fun W hW=>(HD.out W hW.1).has) agg_Flat rfl) hHeld ?_;try simp only [J])
 (refine wpAnyH_ready (rs:=[4]) (by kernel_rfl) (by simp) ?_;refine AllReadyH.cons rfl (fun K hK=>?_) AllReadyH.nil)
 go_simp
 refine (value_calls _ _ _ _ _ hone _).mono ?_
 rintro r w5 ⟨D3,L3,S3,rfl,hx5,hS5,hD5,hL5⟩
 refine hK.out _ _ ⟨hHeld.1.trans hx5,hHeld.2.ext hx5⟩ (fun hHeld=>?_)
 clear hK K
 try simp only [J]
 have henv:ValEnv w5 ls [] S3:=⟨D3,L3,_,_,_,_,hS5,hD5,hL5,HSG.out w5 hHeld.1,look_zero _ _⟩
 have hup:=upB_calls 85 #[.pointer (some ⟨S3,0,none⟩)] leads_v2 (evB []) w5 (fun e=>WS ls e∧e.wf) (fun e h x hx=>⟨((WS_iff _ e).1 h.1).2 x hx,((E.wf_iff e).1 h.2).2.2.2.2.2.2.2 x hx⟩)
  (fun e h cs s W hW hV hB=>value2_calls HLS.out (vals_nil ls) henv e h.1 h.2 cs s W hW hV hB) (e.with (x :: l)) ⟨HWS.out,HWF.out⟩ _ w5 (Below.refl _ _) (HFV.out w5 (Since.of_ext hHeld.1)) HNN.out
 rw [show evB [] (e.with (x :: l))=⟨e.w,V⟩ by unfold evB;rw [HV.out];rfl] at hup
 have HUP:=Lib.hid hup
 clear hup henv hS5 hD5 hL5
 (refine wpAnyH_ready (rs:=[5]) (by kernel_rfl) (by simp) ?_;refine AllReadyH.cons rfl (fun K hK=>?_) AllReadyH.nil)
 go_simp
 refine HUP.out.mono ?_
 rintro r w6 ⟨rfl,hx6⟩
 refine hK.out _ _ ⟨hHeld.1.trans hx6,hHeld.2.ext hx6⟩ (fun hHeld=>?_)
 clear hK K HUP
 try simp only [J]
 (refine Jt 6 (.int .u64 (V:Int)) rfl (yif_load1 rfl (by intro W hW;clear hW;have hf:=field_bits ⟨e.w,V⟩ W;go_simp)) hHeld ?_;try simp only [J])
 (refine Jt 7 (.agg (E.cells ⟨1,e.w,(V:Int),0,0,0,0,[]⟩ (.slice none 0 0)).toArray) rfl (yif_load1 rfl (by intro W hW;clear hW;go_simp)) hHeld ?_;try simp only [J])
 (refine wpAnyH_ready (rs:=[8]) (by kernel_rfl) (by simp) ?_;refine AllReadyH.cons rfl (fun K hK=>?_) AllReadyH.nil)
 refine step_store_blk' rfl 44 _ _ rfl ((HR4.out.drew.ext hx5).ext hx6) rfl (cs:=E.cells ⟨1,e.w,(V:Int),0,0,0,0,[]⟩ (.slice none 0 0)) rfl agg_E rfl rfl rfl ?_
 intro w8 hb8 hg8
 refine hK.out _ _ ⟨hHeld.1.grown hg8 (by omega),hHeld.2.grown hg8 (by omega)⟩ (fun hHeld=>?_)
 clear hK K
 refine wpAnyH_done (by kernel_rfl) ?_ _
 go_wp2_with ((with_reducible show bodyPost _ _ _ _ _ _);refine Hid.out ?_)
 refine Lib.hid ?_
 refine post_ret_blk rfl rfl hb8.has agg_E rfl rfl ⟨_,rfl,fv_leafE _ _ _ rfl,hHeld.1⟩
set_option maxRecDepth 100000 in
set_option maxHeartbeats 2000000 in
theorem f1_idx {wb:World} {ls:List Signal} {D M g cap:Nat} {sv pv cv s0:Value} (e x:E) (l:List E) (w:World) (hone : [sv,pv,cv].all (·.oneCell')=true) (hD:Blk wb D #[sv,pv,cv] 26) (hS:Sigs wb sv ls) (hx:Ext wb w) (hM:M ≤ w.heap.size) (hE0:Es w s0 e.l) (hrow:RowIs VE 44 8 M (.slice (some ⟨g,0,none⟩) (x :: l).length cap) (x :: l) w) (b3:(e.op == 3)=true) (ht:isNum x=true) (hlt:decide (x.v < sigW ls e.sig)=true) (k:Nat) (hk:k < ls.length) (hsig:e.sig=(k:Int)) (hls:∀ x ∈ ls,1 ≤ x.w∧x.w ≤ 64) (hv0:0 ≤ x.v) (hv1:x.v < 18446744073709551616) :
  Calls Tryz.prog 99 #[.agg (e.cells s0).toArray,.slice (some ⟨g,0,none⟩) (x :: l).length cap,.pointer (some ⟨D,0,none⟩)] w fun r w'=>∃ cs',r=.returned (.agg cs'.toArray)∧FV VE M w' cs' (⟨2,1,0,e.sig,x.v,x.v,0,[]⟩)∧Ext w w':=by
 obtain ⟨ag,bs,os,cs0,rfl,-,-,has,hrs⟩:=hS.open
 obtain rfl:=has (by omega)
 have HSGK:=Lib.hid (fun W (h:Ext w W)=>(Sigs.get (hrs.mono fun x _ b o hh=>SigAt.ext' (hx.trans h) hh) hk:Has W bs (os + k * 4) ls[k].cells))
 have hw:=hls _ (List.getElem_mem hk)
 clear has hrs
 obtain ⟨csx,hx0,hx8,hxf⟩:=hrow.get (k:=0) (by simp)
 rw [Nat.zero_mul] at hx0
 rw [Jb] at hxf
 obtain ⟨sx,rfl,-⟩:=hxf.here
 have hn0:(x :: l).length=l.length + 1:=rfl
 have HROW:=Lib.hid hrow
 have HXF:=Lib.hid hxf
 have HD:=Lib.hid (fun W (h:Ext w W)=>hD.ext (hx.trans h))
 have HSG:=Lib.hid (fun W (h:Ext w W)=>hS.ext (hx.trans h))
 have HM:=Lib.hid hM
 have x1:=ext_alloc w (.cells (e.cells s0).toArray 44)
 have x2:=ext_alloc (w.alloc (.cells (e.cells s0).toArray 44)) (.cells (zE.cells (.slice none 0 0)).toArray 44)
 have hE:=(Blk.new w (e.cells s0).toArray 44).ext x2
 have hR:=Blk.new (w.alloc (.cells (e.cells s0).toArray 44)) (zE.cells (.slice none 0 0)).toArray 44
 have hX:=x1.trans x2
 have hx1:=(hx0.ext hX)
 have HSZ:=Lib.hid (show ((w.alloc (.cells (e.cells s0).toArray 44)).alloc (.cells (zE.cells (.slice none 0 0)).toArray 44)).heap.size=w.heap.size + 1 + 1 by simp only [World.size_alloc])
 simp only [World.size_alloc] at hR
 have HE00:=Lib.hid hE0
 clear x1 x2 hx0 hxf hrow hM hD hS hx hE0
 rw [hn0] at *
 rw [zE_cells] at *
 have HN:=Lib.hid (fun W (h:Ext w W)=>number_calls x _ W ((HXF.out.ext h).here))
 go_enter Tryz.func99,Tryz.ntmps99
 go_upto_region 1 with fail
 generalize (w.alloc _).alloc _=w0 at *
 have HE:=Lib.hid hE
 have HR:=Lib.hid hR
 have HX:=Lib.hid hX
 clear hE hR hX
 have q1:((l.length:Int) + 1 == 0)=false:=by rw [beq_eq_false_iff_ne];omega
 have q2:decide ((0:Int) < (l.length:Int) + 1)=true:=decide_eq_true (by omega)
 go_upto_region 2 with (first | ((with_reducible show Jw (Op.load 44 _));refine wpList_load_has rfl 44 _ rfl rfl (hx1) agg_E hx8 ?_) | (go_at_call 100;refine (HN.out _ HX.out).mono ?_;rintro r w1 ⟨rfl,hy1⟩))
 replace HE:=Lib.hid (HE.out.ext hy1)
 replace HR:=Lib.hid (HR.out.ext hy1)
 have HX1:=Lib.hid (HX.out.trans hy1)
 have hx2:=hx1.ext hy1
 clear hy1 hx1 HN q2
 have k0:=HE.out.has 0 _ rfl
 rw [show isNum x=true from ht] at *
 clear ht
 have k2:=hx2 2 _ rfl
 have k3:=HE.out.has 3 _ rfl
 rw [hsig] at k3
 have k4:=(HD.out _ HX1.out).has 0 _ rfl
 have k5:=HSGK.out _ HX1.out 1 _ rfl
 have i1:(k:Int) < (ls.length:Int):=by omega
 have q3:decide (x.v < ls[k].w)=true:=by rw [← hlt,hsig];simp [sigW,List.getElem?_eq_getElem hk]
 go_upto_region 4 with fail
 go_quiet (fail)
 replace HX:=Lib.hid (HX1.out.drewNB nq)
 replace HE:=Lib.hid (HE.out.drewN nq)
 replace HR:=Lib.hid (HR.out.drewN nq)
 replace hx2:=hx2.drewN nq
 clear k0 HX1 hx8 k2 k3 k4 k5
 clear hsig
 generalize w1.drewN nq=w2 at *
 have k2:=hx2 2 _ rfl
 have k3:=HE.out.has 3 _ rfl
 have hvw:x.v < 64:=by have:=of_decide_eq_true q3;omega
 go_wp2_with (first | ((with_reducible show Jw (Op.store 44 _ _));refine wpList_store_blk rfl 44 _ _ rfl (HR.out) rfl (cs:=E.cells ⟨2,1,0,e.sig,x.v,x.v,0,[]⟩ (.slice none 0 0)) (rfl) agg_E (rfl) rfl (rfl) ?_;intro w6 hb6 hg6) | ((with_reducible show bodyPost _ _ _ _ _ _);refine Hid.out ?_))
 refine Lib.hid ?_
 refine post_ret_blk rfl rfl hb6.has agg_E rfl rfl ⟨_,rfl,fv_leafE _ _ _ rfl,HX.out.grown hg6 (by omega)⟩
set_option maxRecDepth 100000 in
set_option maxHeartbeats 2000000 in
theorem f1_idx_part {wb:World} {ls:List Signal} {D M g cap:Nat} {sv pv cv s0:Value} (e x:E) (l:List E) (w:World) (hone : [sv,pv,cv].all (·.oneCell')=true) (hD:Blk wb D #[sv,pv,cv] 26) (hS:Sigs wb sv ls) (hx:Ext wb w) (hM:M ≤ w.heap.size) (hE0:Es w s0 e.l) (hrow:RowIs VE 44 8 M (.slice (some ⟨g,0,none⟩) (x :: l).length cap) (x :: l) w) (b3:(e.op == 3)=true) (b6:(e.op == 6)=false) (ht:isNum x=true) (hlt:decide (x.v < sigW ls e.sig)=false) (hany:(x :: l).any (fun x=>!isNum x)=true) (k:Nat) (hk:k < ls.length) (hsig:e.sig=(k:Int)) (hls:∀ x ∈ ls,1 ≤ x.w∧x.w ≤ 64) (hv0:0 ≤ x.v) (hv1:x.v < 18446744073709551616) :
  Calls Tryz.prog 99 #[.agg (e.cells s0).toArray,.slice (some ⟨g,0,none⟩) (x :: l).length cap,.pointer (some ⟨D,0,none⟩)] w fun r w'=>∃ cs',r=.returned (.agg cs'.toArray)∧FV VE M w' cs' (e.with (x :: l))∧Ext w w':=by
 obtain ⟨ag,bs,os,cs0,rfl,-,-,has,hrs⟩:=hS.open
 obtain rfl:=has (by omega)
 have HSGK:=Lib.hid (fun W (h:Ext w W)=>(Sigs.get (hrs.mono fun x _ b o hh=>SigAt.ext' (hx.trans h) hh) hk:Has W bs (os + k * 4) ls[k].cells))
 have hw:=hls _ (List.getElem_mem hk)
 clear has hrs
 obtain ⟨csx,hx0,hx8,hxf⟩:=hrow.get (k:=0) (by simp)
 rw [Nat.zero_mul] at hx0
 rw [Jb] at hxf
 obtain ⟨sx,rfl,-⟩:=hxf.here
 have hn0:(x :: l).length=l.length + 1:=rfl
 have HROW:=Lib.hid hrow
 have HXF:=Lib.hid hxf
 have HD:=Lib.hid (fun W (h:Ext w W)=>hD.ext (hx.trans h))
 have HSG:=Lib.hid (fun W (h:Ext w W)=>hS.ext (hx.trans h))
 have HM:=Lib.hid hM
 have x1:=ext_alloc w (.cells (e.cells s0).toArray 44)
 have x2:=ext_alloc (w.alloc (.cells (e.cells s0).toArray 44)) (.cells (zE.cells (.slice none 0 0)).toArray 44)
 have hE:=(Blk.new w (e.cells s0).toArray 44).ext x2
 have hR:=Blk.new (w.alloc (.cells (e.cells s0).toArray 44)) (zE.cells (.slice none 0 0)).toArray 44
 have hX:=x1.trans x2
 have hx1:=(hx0.ext hX)
 have HSZ:=Lib.hid (show ((w.alloc (.cells (e.cells s0).toArray 44)).alloc (.cells (zE.cells (.slice none 0 0)).toArray 44)).heap.size=w.heap.size + 1 + 1 by simp only [World.size_alloc])
 simp only [World.size_alloc] at hR
 have HE00:=Lib.hid hE0
 clear x1 x2 hx0 hxf hrow hM hD hS hx hE0
 rw [hn0] at *
 rw [zE_cells] at *
 have HN:=Lib.hid (fun W (h:Ext w W)=>number_calls x _ W ((HXF.out.ext h).here))
 go_enter Tryz.func99,Tryz.ntmps99
 go_upto_region 1 with fail
 generalize (w.alloc _).alloc _=w0 at *
 have HE:=Lib.hid hE
 have HR:=Lib.hid hR
 have HX:=Lib.hid hX
 clear hE hR hX
 have q1:((l.length:Int) + 1 == 0)=false:=by rw [beq_eq_false_iff_ne];omega
 have q2:decide ((0:Int) < (l.length:Int) + 1)=true:=decide_eq_true (by omega)
 go_upto_region 2 with (first | ((with_reducible show Jw (Op.load 44 _));refine wpList_load_has rfl 44 _ rfl rfl (hx1) agg_E hx8 ?_) | (go_at_call 100;refine (HN.out _ HX.out).mono ?_;rintro r w1 ⟨rfl,hy1⟩))
 replace HE:=Lib.hid (HE.out.ext hy1)
 replace HR:=Lib.hid (HR.out.ext hy1)
 have HX1:=Lib.hid (HX.out.trans hy1)
 have hx2:=hx1.ext hy1
 clear hy1 hx1 HN q2
 have k0:=HE.out.has 0 _ rfl
 rw [show isNum x=true from ht] at *
 clear ht
 have k2:=hx2 2 _ rfl
 have k3:=HE.out.has 3 _ rfl
 rw [hsig] at k3
 have k4:=(HD.out _ HX1.out).has 0 _ rfl
 have k5:=HSGK.out _ HX1.out 1 _ rfl
 have i1:(k:Int) < (ls.length:Int):=by omega
 have q3:decide (x.v < ls[k].w)=false:=by rw [← hlt,hsig];simp [sigW,List.getElem?_eq_getElem hk]
 go_upto_region 4 with fail
 go_quiet (fail)
 clear k2 k3 k4 k5 q3 i1
 replace HX:=Lib.hid (HX1.out.drewNB nq)
 replace HE:=Lib.hid (HE.out.drewN nq)
 replace HR:=Lib.hid (HR.out.drewN nq)
 clear k0 HX1 hx2 hx8
 generalize w1.drewN nq=w2 at *
 have g1:=HE.out.cell 7
 have f1:=HE.out.frozen 7
 simp only [E.cells,List.getElem?_toArray,List.getElem?_cons_zero,List.getElem?_cons_succ] at g1
 have k0:=HE.out.has 0 _ rfl
 go_upto_region 10 with fail
 clear f1 g1 k0
 have hset:((e.cells s0).toArray.setIfInBounds 7 (.slice (some ⟨g,0,none⟩) (l.length + 1) cap))=((e.with (x :: l)).cells (.slice (some ⟨g,0,none⟩) (l.length + 1) cap)).toArray:=rfl
 have hb3:=HE.out.set 7 (.slice (some ⟨g,0,none⟩) (l.length + 1) cap)
 rw [hset] at hb3
 clear hset
 have hg3:=gb_set w2 w.heap.size 7 (.slice (some ⟨g,0,none⟩) (l.length + 1) cap)
 replace HR:=Lib.hid (HR.out.grown hg3 (by omega))
 replace HX:=Lib.hid (HX.out.grown hg3 (Nat.le_refl _))
 replace HE:=Lib.hid hb3
 clear hb3 hg3
 generalize w2.setCell _ _=w3 at *
 have hrow3:=HROW.out.since (Since.of_ext (N:=M) HX.out)
 have hfv3:FV VE M w ((e.with (x :: l)).cells (.slice (some ⟨g,0,none⟩) (l.length + 1) cap)) (e.with (x :: l)):=fun W hW=>⟨_,rfl,RowIs.sl (V:=VE) (At:=EAt) (fun _ _ _ _ _ h hv=>VE.at h hv) HROW.out hW⟩
 have HFV:=Lib.hid hfv3
 have HSL:=Lib.hid (hrow3.sl (V:=VE) (At:=EAt) (fun _ _ _ _ _ h hv=>VE.at h hv) (Since.refl _ _))
 clear hrow3 hfv3
 have HCF:=Lib.hid (ContainsFunc_E 102 #[] (fun x=>!isNum x) (x :: l) _ w3 HSL.out leads_f11 (fun wr hr k hk cs hv=>f11_calls _ cs wr hv))
 rw [show (x :: l).any (fun x=>!isNum x)=true from hany] at HCF
 clear hany
 go_wp2_with (first | (go_at_call 101;refine HCF.out.mono ?_;rintro r w4 ⟨rfl,hx4⟩;have hb4:=(HE.out.ext hx4).has) | ((with_reducible show Jw (Op.load 44 _));refine wpList_load_has rfl 44 _ rfl rfl (hb4) agg_E rfl ?_) | ((with_reducible show Jw (Op.store 44 _ _));refine wpList_store_blk rfl 44 _ _ rfl (HR.out.ext hx4) rfl (cs:=(e.with (x :: l)).cells (.slice (some ⟨g,0,none⟩) (l.length + 1) cap)) (rfl) agg_E (rfl) rfl (rfl) ?_;intro w6 hb6 hg6) | ((with_reducible show bodyPost _ _ _ _ _ _);refine Hid.out ?_))
 refine Lib.hid ?_
 refine post_ret_blk rfl rfl hb6.has agg_E rfl rfl ⟨_,rfl,?_,?_⟩
 ·exact HFV.out.ext ((HX.out.trans hx4).grown hg6 (by omega))
 ·exact (HX.out.trans hx4).grown hg6 (by omega)
set_option maxRecDepth 100000 in
set_option maxHeartbeats 2000000 in
theorem f1_idx_num {wb:World} {ls:List Signal} {D M g cap:Nat} {sv pv cv s0:Value} (e x:E) (l:List E) (w:World) (hone : [sv,pv,cv].all (·.oneCell')=true) (hD:Blk wb D #[sv,pv,cv] 26) (hS:Sigs wb sv ls) (hx:Ext wb w) (hM:M ≤ w.heap.size) (hE0:Es w s0 e.l) (hrow:RowIs VE 44 8 M (.slice (some ⟨g,0,none⟩) (x :: l).length cap) (x :: l) w) (b3:(e.op == 3)=true) (b6:(e.op == 6)=false) (ht:isNum x=true) (hlt:decide (x.v < sigW ls e.sig)=false) (hany:(x :: l).any (fun x=>!isNum x)=false) (k:Nat) (hk:k < ls.length) (hsig:e.sig=(k:Int)) (hv0:0 ≤ x.v) (hv1:x.v < 18446744073709551616)(hls:∀ x ∈ ls,1 ≤ x.w∧x.w ≤ 64) (hws:WS ls (e.with (x :: l))) (hwf:(e.with (x :: l)).wf) (hnn:nodes (e.with (x :: l)) ≤ 1048576) :
  Calls Tryz.prog 99 #[.agg (e.cells s0).toArray,.slice (some ⟨g,0,none⟩) (x :: l).length cap,.pointer (some ⟨D,0,none⟩)] w fun r w'=>∃ cs',r=.returned (.agg cs'.toArray)∧FV VE M w' cs' (⟨1,e.w,evM [] (e.with (x :: l)),0,0,0,0,[]⟩)∧Ext w w':=by
 obtain ⟨V,hV⟩ : ∃ V,evM [] (e.with (x :: l))=V:=⟨_,rfl⟩
 have HV:=Lib.hid hV
 rw [hV]
 clear hV
 obtain ⟨ag,bs,os,cs0,rfl,-,-,has,hrs⟩:=hS.open
 obtain rfl:=has (by omega)
 have HSGK:=Lib.hid (fun W (h:Ext w W)=>(Sigs.get (hrs.mono fun x _ b o hh=>SigAt.ext' (hx.trans h) hh) hk:Has W bs (os + k * 4) ls[k].cells))
 have hw:=hls _ (List.getElem_mem hk)
 clear has hrs
 obtain ⟨csx,hx0,hx8,hxf⟩:=hrow.get (k:=0) (by simp)
 rw [Nat.zero_mul] at hx0
 rw [Jb] at hxf
 obtain ⟨sx,rfl,-⟩:=hxf.here
 have hn0:(x :: l).length=l.length + 1:=rfl
 have HROW:=Lib.hid hrow
 have HXF:=Lib.hid hxf
 have HD:=Lib.hid (fun W (h:Ext w W)=>hD.ext (hx.trans h))
 have HSG:=Lib.hid (fun W (h:Ext w W)=>hS.ext (hx.trans h))
 have HM:=Lib.hid hM
 have x1:=ext_alloc w (.cells (e.cells s0).toArray 44)
 have x2:=ext_alloc (w.alloc (.cells (e.cells s0).toArray 44)) (.cells (zE.cells (.slice none 0 0)).toArray 44)
 have hE:=(Blk.new w (e.cells s0).toArray 44).ext x2
 have hR:=Blk.new (w.alloc (.cells (e.cells s0).toArray 44)) (zE.cells (.slice none 0 0)).toArray 44
 have hX:=x1.trans x2
 have hx1:=(hx0.ext hX)
 have HSZ:=Lib.hid (show ((w.alloc (.cells (e.cells s0).toArray 44)).alloc (.cells (zE.cells (.slice none 0 0)).toArray 44)).heap.size=w.heap.size + 1 + 1 by simp only [World.size_alloc])
 simp only [World.size_alloc] at hR
 have HE00:=Lib.hid hE0
 clear x1 x2 hx0 hxf hrow hM hD hS hx hE0
 rw [hn0] at *
 rw [zE_cells] at *
 have HN:=Lib.hid (fun W (h:Ext w W)=>number_calls x _ W ((HXF.out.ext h).here))
 go_enter Tryz.func99,Tryz.ntmps99
 go_upto_region 1 with fail
 generalize (w.alloc _).alloc _=w0 at *
 have HE:=Lib.hid hE
 have HR:=Lib.hid hR
 have HX:=Lib.hid hX
 clear hE hR hX
 have q1:((l.length:Int) + 1 == 0)=false:=by rw [beq_eq_false_iff_ne];omega
 have q2:decide ((0:Int) < (l.length:Int) + 1)=true:=decide_eq_true (by omega)
 go_upto_region 2 with (first | ((with_reducible show Jw (Op.load 44 _));refine wpList_load_has rfl 44 _ rfl rfl (hx1) agg_E hx8 ?_) | (go_at_call 100;refine (HN.out _ HX.out).mono ?_;rintro r w1 ⟨rfl,hy1⟩))
 replace HE:=Lib.hid (HE.out.ext hy1)
 replace HR:=Lib.hid (HR.out.ext hy1)
 have HX1:=Lib.hid (HX.out.trans hy1)
 have hx2:=hx1.ext hy1
 clear hy1 hx1 HN q2
 have k0:=HE.out.has 0 _ rfl
 rw [show isNum x=true from ht] at *
 clear ht
 have k2:=hx2 2 _ rfl
 have k3:=HE.out.has 3 _ rfl
 rw [hsig] at k3
 have k4:=(HD.out _ HX1.out).has 0 _ rfl
 have k5:=HSGK.out _ HX1.out 1 _ rfl
 have i1:(k:Int) < (ls.length:Int):=by omega
 have q3:decide (x.v < ls[k].w)=false:=by rw [← hlt,hsig];simp [sigW,List.getElem?_eq_getElem hk]
 go_upto_region 4 with fail
 go_quiet (fail)
 clear k2 k3 k4 k5 q3 i1
 clear hsig hw hlt
 replace HX:=Lib.hid (HX1.out.drewNB nq)
 replace HE:=Lib.hid (HE.out.drewN nq)
 replace HR:=Lib.hid (HR.out.drewN nq)
 clear k0 HX1 hx2 hx8
 generalize w1.drewN nq=w2 at *
 have g1:=HE.out.cell 7
 have f1:=HE.out.frozen 7
 simp only [E.cells,List.getElem?_toArray,List.getElem?_cons_zero,List.getElem?_cons_succ] at g1
 have k0:=HE.out.has 0 _ rfl
 go_upto_region 10 with fail
 clear f1 g1 k0
 have hset:((e.cells s0).toArray.setIfInBounds 7 (.slice (some ⟨g,0,none⟩) (l.length + 1) cap))=((e.with (x :: l)).cells (.slice (some ⟨g,0,none⟩) (l.length + 1) cap)).toArray:=rfl
 have hb3:=HE.out.set 7 (.slice (some ⟨g,0,none⟩) (l.length + 1) cap)
 rw [hset] at hb3
 clear hset
 have hg3:=gb_set w2 w.heap.size 7 (.slice (some ⟨g,0,none⟩) (l.length + 1) cap)
 replace HR:=Lib.hid (HR.out.grown hg3 (by omega))
 replace HX:=Lib.hid (HX.out.grown hg3 (Nat.le_refl _))
 replace HE:=Lib.hid hb3
 clear hb3 hg3
 generalize w2.setCell _ _=w3 at *
 have hrow3:=HROW.out.since (Since.of_ext (N:=M) HX.out)
 have hfv3:FV VE M w ((e.with (x :: l)).cells (.slice (some ⟨g,0,none⟩) (l.length + 1) cap)) (e.with (x :: l)):=fun W hW=>⟨_,rfl,RowIs.sl (V:=VE) (At:=EAt) (fun _ _ _ _ _ h hv=>VE.at h hv) HROW.out hW⟩
 have HFV:=Lib.hid hfv3
 have HSL:=Lib.hid (hrow3.sl (V:=VE) (At:=EAt) (fun _ _ _ _ _ h hv=>VE.at h hv) (Since.refl _ _))
 clear hrow3 hfv3
 have HCF:=Lib.hid (ContainsFunc_E 102 #[] (fun x=>!isNum x) (x :: l) _ w3 HSL.out leads_f11 (fun wr hr k hk cs hv=>f11_calls _ cs wr hv))
 rw [show (x :: l).any (fun x=>!isNum x)=false from hany] at HCF
 clear hany
 go_upto_region 12 with (first | (go_at_call 101;refine HCF.out.mono ?_;rintro r w4 ⟨rfl,hx4⟩))
 have HX4:=Lib.hid (HX.out.trans hx4)
 have HE4:=Lib.hid (HE.out.ext hx4)
 have HR4:=Lib.hid (HR.out.ext hx4)
 have HLS:=Lib.hid hls
 have HWS:=Lib.hid hws
 have HWF:=Lib.hid hwf
 have HNN:=Lib.hid hnn
 clear hx4 hls hws hwf hnn
 refine wp_region_held_drew (S:=fun W=>Ext w W∧Blk W w.heap.size ((e.with (x :: l)).cells (.slice (some ⟨g,0,none⟩) (l.length + 1) cap)).toArray 44) (by kernel_rfl) ⟨HX4.out.drew,HE4.out.drew⟩ (fun hHeld=>?_)
 try simp only [J]
 (refine Jt 0 (_) rfl (yif_load1 rfl fun _ _=>rfl) hHeld ?_;try simp only [J])
 (refine Jt 1 (.int .i64 e.w) rfl (yif_load1 rfl (by intro W hW;have y:=hW.2.has 1 _ rfl;clear hW;simp only [E.with] at y;go_simp)) hHeld ?_;try simp only [J])
 (refine Jt 2 (.agg ((e.with (x :: l)).cells (.slice (some ⟨g,0,none⟩) (l.length + 1) cap)).toArray) rfl (yif_load rfl 44 _ rfl rfl (fun W hW=>hW.2.has) agg_E rfl) hHeld ?_;try simp only [J])
 (refine Jt 3 (.agg #[.slice (some ⟨bs,os,none⟩) ls.length cs0,pv,cv]) rfl (yif_load rfl 26 _ rfl rfl (fun W hW=>(HD.out W hW.1).has) agg_Flat rfl) hHeld ?_;try simp only [J])
 (refine wpAnyH_ready (rs:=[4]) (by kernel_rfl) (by simp) ?_;refine AllReadyH.cons rfl (fun K hK=>?_) AllReadyH.nil)
 go_simp
 refine (value_calls _ _ _ _ _ hone _).mono ?_
 rintro r w5 ⟨D3,L3,S3,rfl,hx5,hS5,hD5,hL5⟩
 refine hK.out _ _ ⟨hHeld.1.trans hx5,hHeld.2.ext hx5⟩ (fun hHeld=>?_)
 clear hK K
 try simp only [J]
 have henv:ValEnv w5 ls [] S3:=⟨D3,L3,_,_,_,_,hS5,hD5,hL5,HSG.out w5 hHeld.1,look_zero _ _⟩
 have hup:=upB_calls 85 #[.pointer (some ⟨S3,0,none⟩)] leads_v2 (evB []) w5 (fun e=>WS ls e∧e.wf) (fun e h x hx=>⟨((WS_iff _ e).1 h.1).2 x hx,((E.wf_iff e).1 h.2).2.2.2.2.2.2.2 x hx⟩)
  (fun e h cs s W hW hV hB=>value2_calls HLS.out (vals_nil ls) henv e h.1 h.2 cs s W hW hV hB) (e.with (x :: l)) ⟨HWS.out,HWF.out⟩ _ w5 (Below.refl _ _) (HFV.out w5 (Since.of_ext hHeld.1)) HNN.out
 rw [show evB [] (e.with (x :: l))=⟨e.w,V⟩ by unfold evB;rw [HV.out];rfl] at hup
 have HUP:=Lib.hid hup
 clear hup henv hS5 hD5 hL5
 (refine wpAnyH_ready (rs:=[5]) (by kernel_rfl) (by simp) ?_;refine AllReadyH.cons rfl (fun K hK=>?_) AllReadyH.nil)
 go_simp
 refine HUP.out.mono ?_
 rintro r w6 ⟨rfl,hx6⟩
 refine hK.out _ _ ⟨hHeld.1.trans hx6,hHeld.2.ext hx6⟩ (fun hHeld=>?_)
 clear hK K HUP
 try simp only [J]
 (refine Jt 6 (.int .u64 (V:Int)) rfl (yif_load1 rfl (by intro W hW;clear hW;have hf:=field_bits ⟨e.w,V⟩ W;go_simp)) hHeld ?_;try simp only [J])
 (refine Jt 7 (.agg (E.cells ⟨1,e.w,(V:Int),0,0,0,0,[]⟩ (.slice none 0 0)).toArray) rfl (yif_load1 rfl (by intro W hW;clear hW;go_simp)) hHeld ?_;try simp only [J])
 (refine wpAnyH_ready (rs:=[8]) (by kernel_rfl) (by simp) ?_;refine AllReadyH.cons rfl (fun K hK=>?_) AllReadyH.nil)
 refine step_store_blk' rfl 44 _ _ rfl ((HR4.out.drew.ext hx5).ext hx6) rfl (cs:=E.cells ⟨1,e.w,(V:Int),0,0,0,0,[]⟩ (.slice none 0 0)) rfl agg_E rfl rfl rfl ?_
 intro w8 hb8 hg8
 refine hK.out _ _ ⟨hHeld.1.grown hg8 (by omega),hHeld.2.grown hg8 (by omega)⟩ (fun hHeld=>?_)
 clear hK K
 refine wpAnyH_done (by kernel_rfl) ?_ _
 go_wp2_with ((with_reducible show bodyPost _ _ _ _ _ _);refine Hid.out ?_)
 refine Lib.hid ?_
 refine post_ret_blk rfl rfl hb8.has agg_E rfl rfl ⟨_,rfl,fv_leafE _ _ _ rfl,hHeld.1⟩
set_option maxRecDepth 100000 in
set_option maxHeartbeats 2000000 in
theorem f1_idx_not {wb:World} {ls:List Signal} {D M g cap:Nat} {sv pv cv s0:Value} (e x:E) (l:List E) (w:World) (hone : [sv,pv,cv].all (·.oneCell')=true) (hD:Blk wb D #[sv,pv,cv] 26) (hS:Sigs wb sv ls) (hx:Ext wb w) (hM:M ≤ w.heap.size) (hE0:Es w s0 e.l) (hrow:RowIs VE 44 8 M (.slice (some ⟨g,0,none⟩) (x :: l).length cap) (x :: l) w) (b3:(e.op == 3)=true) (b6:(e.op == 6)=false) (ht:isNum x=false) (hany:(x :: l).any (fun x=>!isNum x)=true) :
  Calls Tryz.prog 99 #[.agg (e.cells s0).toArray,.slice (some ⟨g,0,none⟩) (x :: l).length cap,.pointer (some ⟨D,0,none⟩)] w fun r w'=>∃ cs',r=.returned (.agg cs'.toArray)∧FV VE M w' cs' (e.with (x :: l))∧Ext w w':=by
 obtain ⟨csx,hx0,hx8,hxf⟩:=hrow.get (k:=0) (by simp)
 rw [Nat.zero_mul] at hx0
 rw [Jb] at hxf
 obtain ⟨sx,rfl,-⟩:=hxf.here
 have hn0:(x :: l).length=l.length + 1:=rfl
 have HROW:=Lib.hid hrow
 have HXF:=Lib.hid hxf
 have HD:=Lib.hid (fun W (h:Ext w W)=>hD.ext (hx.trans h))
 have HSG:=Lib.hid (fun W (h:Ext w W)=>hS.ext (hx.trans h))
 have HM:=Lib.hid hM
 have x1:=ext_alloc w (.cells (e.cells s0).toArray 44)
 have x2:=ext_alloc (w.alloc (.cells (e.cells s0).toArray 44)) (.cells (zE.cells (.slice none 0 0)).toArray 44)
 have hE:=(Blk.new w (e.cells s0).toArray 44).ext x2
 have hR:=Blk.new (w.alloc (.cells (e.cells s0).toArray 44)) (zE.cells (.slice none 0 0)).toArray 44
 have hX:=x1.trans x2
 have hx1:=(hx0.ext hX)
 have HSZ:=Lib.hid (show ((w.alloc (.cells (e.cells s0).toArray 44)).alloc (.cells (zE.cells (.slice none 0 0)).toArray 44)).heap.size=w.heap.size + 1 + 1 by simp only [World.size_alloc])
 simp only [World.size_alloc] at hR
 have HE00:=Lib.hid hE0
 clear x1 x2 hx0 hxf hrow hM hD hS hx hE0
 rw [hn0] at *
 rw [zE_cells] at *
 have HN:=Lib.hid (fun W (h:Ext w W)=>number_calls x _ W ((HXF.out.ext h).here))
 go_enter Tryz.func99,Tryz.ntmps99
 go_upto_region 1 with fail
 generalize (w.alloc _).alloc _=w0 at *
 have HE:=Lib.hid hE
 have HR:=Lib.hid hR
 have HX:=Lib.hid hX
 clear hE hR hX
 have q1:((l.length:Int) + 1 == 0)=false:=by rw [beq_eq_false_iff_ne];omega
 have q2:decide ((0:Int) < (l.length:Int) + 1)=true:=decide_eq_true (by omega)
 go_upto_region 2 with (first | ((with_reducible show Jw (Op.load 44 _));refine wpList_load_has rfl 44 _ rfl rfl (hx1) agg_E hx8 ?_) | (go_at_call 100;refine (HN.out _ HX.out).mono ?_;rintro r w1 ⟨rfl,hy1⟩))
 replace HE:=Lib.hid (HE.out.ext hy1)
 replace HR:=Lib.hid (HR.out.ext hy1)
 have HX1:=Lib.hid (HX.out.trans hy1)
 have hx2:=hx1.ext hy1
 clear hy1 hx1 HN q2
 have k0:=HE.out.has 0 _ rfl
 rw [show isNum x=false from ht] at *
 clear ht
 go_upto_region 4 with fail
 go_quiet (fail)
 replace HX:=Lib.hid (HX1.out.drewNB nq)
 replace HE:=Lib.hid (HE.out.drewN nq)
 replace HR:=Lib.hid (HR.out.drewN nq)
 clear k0 HX1 hx2 hx8
 generalize w1.drewN nq=w2 at *
 have g1:=HE.out.cell 7
 have f1:=HE.out.frozen 7
 simp only [E.cells,List.getElem?_toArray,List.getElem?_cons_zero,List.getElem?_cons_succ] at g1
 have k0:=HE.out.has 0 _ rfl
 go_upto_region 10 with fail
 clear f1 g1 k0
 have hset:((e.cells s0).toArray.setIfInBounds 7 (.slice (some ⟨g,0,none⟩) (l.length + 1) cap))=((e.with (x :: l)).cells (.slice (some ⟨g,0,none⟩) (l.length + 1) cap)).toArray:=rfl
 have hb3:=HE.out.set 7 (.slice (some ⟨g,0,none⟩) (l.length + 1) cap)
 rw [hset] at hb3
 clear hset
 have hg3:=gb_set w2 w.heap.size 7 (.slice (some ⟨g,0,none⟩) (l.length + 1) cap)
 replace HR:=Lib.hid (HR.out.grown hg3 (by omega))
 replace HX:=Lib.hid (HX.out.grown hg3 (Nat.le_refl _))
 replace HE:=Lib.hid hb3
 clear hb3 hg3
 generalize w2.setCell _ _=w3 at *
 have hrow3:=HROW.out.since (Since.of_ext (N:=M) HX.out)
 have hfv3:FV VE M w ((e.with (x :: l)).cells (.slice (some ⟨g,0,none⟩) (l.length + 1) cap)) (e.with (x :: l)):=fun W hW=>⟨_,rfl,RowIs.sl (V:=VE) (At:=EAt) (fun _ _ _ _ _ h hv=>VE.at h hv) HROW.out hW⟩
 have HFV:=Lib.hid hfv3
 have HSL:=Lib.hid (hrow3.sl (V:=VE) (At:=EAt) (fun _ _ _ _ _ h hv=>VE.at h hv) (Since.refl _ _))
 clear hrow3 hfv3
 have HCF:=Lib.hid (ContainsFunc_E 102 #[] (fun x=>!isNum x) (x :: l) _ w3 HSL.out leads_f11 (fun wr hr k hk cs hv=>f11_calls _ cs wr hv))
 rw [show (x :: l).any (fun x=>!isNum x)=true from hany] at HCF
 clear hany
 go_wp2_with (first | (go_at_call 101;refine HCF.out.mono ?_;rintro r w4 ⟨rfl,hx4⟩;have hb4:=(HE.out.ext hx4).has) | ((with_reducible show Jw (Op.load 44 _));refine wpList_load_has rfl 44 _ rfl rfl (hb4) agg_E rfl ?_) | ((with_reducible show Jw (Op.store 44 _ _));refine wpList_store_blk rfl 44 _ _ rfl (HR.out.ext hx4) rfl (cs:=(e.with (x :: l)).cells (.slice (some ⟨g,0,none⟩) (l.length + 1) cap)) (rfl) agg_E (rfl) rfl (rfl) ?_;intro w6 hb6 hg6) | ((with_reducible show bodyPost _ _ _ _ _ _);refine Hid.out ?_))
 refine Lib.hid ?_
 refine post_ret_blk rfl rfl hb6.has agg_E rfl rfl ⟨_,rfl,?_,?_⟩
 ·exact HFV.out.ext ((HX.out.trans hx4).grown hg6 (by omega))
 ·exact (HX.out.trans hx4).grown hg6 (by omega)
set_option maxRecDepth 100000 in
set_option maxHeartbeats 2000000 in
theorem f1_cond_not {wb:World} {ls:List Signal} {D M g cap:Nat} {sv pv cv s0:Value} (e x:E) (l:List E) (w:World) (hone : [sv,pv,cv].all (·.oneCell')=true) (hD:Blk wb D #[sv,pv,cv] 26) (hS:Sigs wb sv ls) (hx:Ext wb w) (hM:M ≤ w.heap.size) (hE0:Es w s0 e.l) (hrow:RowIs VE 44 8 M (.slice (some ⟨g,0,none⟩) (x :: l).length cap) (x :: l) w) (b3:(e.op == 3)=false) (b6:(e.op == 6)=true) (ht:isNum x=false) (hany:(x :: l).any (fun x=>!isNum x)=true) :
  Calls Tryz.prog 99 #[.agg (e.cells s0).toArray,.slice (some ⟨g,0,none⟩) (x :: l).length cap,.pointer (some ⟨D,0,none⟩)] w fun r w'=>∃ cs',r=.returned (.agg cs'.toArray)∧FV VE M w' cs' (e.with (x :: l))∧Ext w w':=by
 obtain ⟨csx,hx0,hx8,hxf⟩:=hrow.get (k:=0) (by simp)
 rw [Nat.zero_mul] at hx0
 rw [Jb] at hxf
 obtain ⟨sx,rfl,-⟩:=hxf.here
 have hn0:(x :: l).length=l.length + 1:=rfl
 have HROW:=Lib.hid hrow
 have HXF:=Lib.hid hxf
 have HD:=Lib.hid (fun W (h:Ext w W)=>hD.ext (hx.trans h))
 have HSG:=Lib.hid (fun W (h:Ext w W)=>hS.ext (hx.trans h))
 have HM:=Lib.hid hM
 have x1:=ext_alloc w (.cells (e.cells s0).toArray 44)
 have x2:=ext_alloc (w.alloc (.cells (e.cells s0).toArray 44)) (.cells (zE.cells (.slice none 0 0)).toArray 44)
 have hE:=(Blk.new w (e.cells s0).toArray 44).ext x2
 have hR:=Blk.new (w.alloc (.cells (e.cells s0).toArray 44)) (zE.cells (.slice none 0 0)).toArray 44
 have hX:=x1.trans x2
 have hx1:=(hx0.ext hX)
 have HSZ:=Lib.hid (show ((w.alloc (.cells (e.cells s0).toArray 44)).alloc (.cells (zE.cells (.slice none 0 0)).toArray 44)).heap.size=w.heap.size + 1 + 1 by simp only [World.size_alloc])
 simp only [World.size_alloc] at hR
 have HE00:=Lib.hid hE0
 clear x1 x2 hx0 hxf hrow hM hD hS hx hE0
 rw [hn0] at *
 rw [zE_cells] at *
 have HN:=Lib.hid (fun W (h:Ext w W)=>number_calls x _ W ((HXF.out.ext h).here))
 go_enter Tryz.func99,Tryz.ntmps99
 go_upto_region 1 with fail
 generalize (w.alloc _).alloc _=w0 at *
 have HE:=Lib.hid hE
 have HR:=Lib.hid hR
 have HX:=Lib.hid hX
 clear hE hR hX
 have q1:((l.length:Int) + 1 == 0)=false:=by rw [beq_eq_false_iff_ne];omega
 have q2:decide ((0:Int) < (l.length:Int) + 1)=true:=decide_eq_true (by omega)
 go_upto_region 2 with (first | ((with_reducible show Jw (Op.load 44 _));refine wpList_load_has rfl 44 _ rfl rfl (hx1) agg_E hx8 ?_) | (go_at_call 100;refine (HN.out _ HX.out).mono ?_;rintro r w1 ⟨rfl,hy1⟩))
 replace HE:=Lib.hid (HE.out.ext hy1)
 replace HR:=Lib.hid (HR.out.ext hy1)
 have HX1:=Lib.hid (HX.out.trans hy1)
 have hx2:=hx1.ext hy1
 clear hy1 hx1 HN q2
 have k0:=HE.out.has 0 _ rfl
 rw [show isNum x=false from ht] at *
 clear ht
 go_upto_region 4 with fail
 go_quiet (fail)
 replace HX:=Lib.hid (HX1.out.drewNB nq)
 replace HE:=Lib.hid (HE.out.drewN nq)
 replace HR:=Lib.hid (HR.out.drewN nq)
 clear k0 HX1 hx2 hx8
 generalize w1.drewN nq=w2 at *
 have g1:=HE.out.cell 7
 have f1:=HE.out.frozen 7
 simp only [E.cells,List.getElem?_toArray,List.getElem?_cons_zero,List.getElem?_cons_succ] at g1
 have k0:=HE.out.has 0 _ rfl
 go_upto_region 10 with fail
 clear f1 g1 k0
 have hset:((e.cells s0).toArray.setIfInBounds 7 (.slice (some ⟨g,0,none⟩) (l.length + 1) cap))=((e.with (x :: l)).cells (.slice (some ⟨g,0,none⟩) (l.length + 1) cap)).toArray:=rfl
 have hb3:=HE.out.set 7 (.slice (some ⟨g,0,none⟩) (l.length + 1) cap)
 rw [hset] at hb3
 clear hset
 have hg3:=gb_set w2 w.heap.size 7 (.slice (some ⟨g,0,none⟩) (l.length + 1) cap)
 replace HR:=Lib.hid (HR.out.grown hg3 (by omega))
 replace HX:=Lib.hid (HX.out.grown hg3 (Nat.le_refl _))
 replace HE:=Lib.hid hb3
 clear hb3 hg3
 generalize w2.setCell _ _=w3 at *
 have hrow3:=HROW.out.since (Since.of_ext (N:=M) HX.out)
 have hfv3:FV VE M w ((e.with (x :: l)).cells (.slice (some ⟨g,0,none⟩) (l.length + 1) cap)) (e.with (x :: l)):=fun W hW=>⟨_,rfl,RowIs.sl (V:=VE) (At:=EAt) (fun _ _ _ _ _ h hv=>VE.at h hv) HROW.out hW⟩
 have HFV:=Lib.hid hfv3
 have HSL:=Lib.hid (hrow3.sl (V:=VE) (At:=EAt) (fun _ _ _ _ _ h hv=>VE.at h hv) (Since.refl _ _))
 clear hrow3 hfv3
 have HCF:=Lib.hid (ContainsFunc_E 102 #[] (fun x=>!isNum x) (x :: l) _ w3 HSL.out leads_f11 (fun wr hr k hk cs hv=>f11_calls _ cs wr hv))
 rw [show (x :: l).any (fun x=>!isNum x)=true from hany] at HCF
 clear hany
 go_wp2_with (first | (go_at_call 101;refine HCF.out.mono ?_;rintro r w4 ⟨rfl,hx4⟩;have hb4:=(HE.out.ext hx4).has) | ((with_reducible show Jw (Op.load 44 _));refine wpList_load_has rfl 44 _ rfl rfl (hb4) agg_E rfl ?_) | ((with_reducible show Jw (Op.store 44 _ _));refine wpList_store_blk rfl 44 _ _ rfl (HR.out.ext hx4) rfl (cs:=(e.with (x :: l)).cells (.slice (some ⟨g,0,none⟩) (l.length + 1) cap)) (rfl) agg_E (rfl) rfl (rfl) ?_;intro w6 hb6 hg6) | ((with_reducible show bodyPost _ _ _ _ _ _);refine Hid.out ?_))
 refine Lib.hid ?_
 refine post_ret_blk rfl rfl hb6.has agg_E rfl rfl ⟨_,rfl,?_,?_⟩
 ·exact HFV.out.ext ((HX.out.trans hx4).grown hg6 (by omega))
 ·exact (HX.out.trans hx4).grown hg6 (by omega)
set_option maxRecDepth 100000 in
set_option maxHeartbeats 2000000 in
theorem f1_cond0 {wb:World} {ls:List Signal} {D M g cap:Nat} {sv pv cv s0:Value} (e x:E) (l:List E) (w:World) (hone : [sv,pv,cv].all (·.oneCell')=true) (hD:Blk wb D #[sv,pv,cv] 26) (hS:Sigs wb sv ls) (hx:Ext wb w) (hM:M ≤ w.heap.size) (hE0:Es w s0 e.l) (hrow:RowIs VE 44 8 M (.slice (some ⟨g,0,none⟩) (x :: l).length cap) (x :: l) w) (b3:(e.op == 3)=false) (b6:(e.op == 6)=true) (ht:isNum x=true) (hv:x.v=0) (y:E) (hy:(x :: l)[2]? = some y) :
  Calls Tryz.prog 99 #[.agg (e.cells s0).toArray,.slice (some ⟨g,0,none⟩) (x :: l).length cap,.pointer (some ⟨D,0,none⟩)] w fun r w'=>∃ cs',r=.returned (.agg cs'.toArray)∧FV VE M w' cs' (y)∧Ext w w':=by
 obtain ⟨hjl,hye⟩:=List.getElem?_eq_some_iff.1 hy
 obtain ⟨csj,hj0,hj8,hjf⟩:=hrow.get (k:=2) hjl
 rw [hye] at hjf
 have HJF:=Lib.hid hjf
 have HL:=Lib.hid (show 2 < l.length + 1 by rw [← List.length_cons (a:=x)];exact hjl)
 clear hjf hjl hye hy
 obtain ⟨csx,hx0,hx8,hxf⟩:=hrow.get (k:=0) (by simp)
 rw [Nat.zero_mul] at hx0
 rw [Jb] at hxf
 obtain ⟨sx,rfl,-⟩:=hxf.here
 have hn0:(x :: l).length=l.length + 1:=rfl
 have HROW:=Lib.hid hrow
 have HXF:=Lib.hid hxf
 have HD:=Lib.hid (fun W (h:Ext w W)=>hD.ext (hx.trans h))
 have HSG:=Lib.hid (fun W (h:Ext w W)=>hS.ext (hx.trans h))
 have HM:=Lib.hid hM
 have x1:=ext_alloc w (.cells (e.cells s0).toArray 44)
 have x2:=ext_alloc (w.alloc (.cells (e.cells s0).toArray 44)) (.cells (zE.cells (.slice none 0 0)).toArray 44)
 have hE:=(Blk.new w (e.cells s0).toArray 44).ext x2
 have hR:=Blk.new (w.alloc (.cells (e.cells s0).toArray 44)) (zE.cells (.slice none 0 0)).toArray 44
 have hX:=x1.trans x2
 have hx1:=(hx0.ext hX)
 have HSZ:=Lib.hid (show ((w.alloc (.cells (e.cells s0).toArray 44)).alloc (.cells (zE.cells (.slice none 0 0)).toArray 44)).heap.size=w.heap.size + 1 + 1 by simp only [World.size_alloc])
 simp only [World.size_alloc] at hR
 have HE00:=Lib.hid hE0
 clear x1 x2 hx0 hxf hrow hM hD hS hx hE0
 rw [hn0] at *
 rw [zE_cells] at *
 have HN:=Lib.hid (fun W (h:Ext w W)=>number_calls x _ W ((HXF.out.ext h).here))
 go_enter Tryz.func99,Tryz.ntmps99
 go_upto_region 1 with fail
 generalize (w.alloc _).alloc _=w0 at *
 have HE:=Lib.hid hE
 have HR:=Lib.hid hR
 have HX:=Lib.hid hX
 clear hE hR hX
 have q1:((l.length:Int) + 1 == 0)=false:=by rw [beq_eq_false_iff_ne];omega
 have q2:decide ((0:Int) < (l.length:Int) + 1)=true:=decide_eq_true (by omega)
 go_upto_region 2 with (first | ((with_reducible show Jw (Op.load 44 _));refine wpList_load_has rfl 44 _ rfl rfl (hx1) agg_E hx8 ?_) | (go_at_call 100;refine (HN.out _ HX.out).mono ?_;rintro r w1 ⟨rfl,hy1⟩))
 replace HE:=Lib.hid (HE.out.ext hy1)
 replace HR:=Lib.hid (HR.out.ext hy1)
 have HX1:=Lib.hid (HX.out.trans hy1)
 have hx2:=hx1.ext hy1
 clear hy1 hx1 HN q2
 have k0:=HE.out.has 0 _ rfl
 rw [show isNum x=true from ht] at *
 clear ht
 go_upto_region 4 with fail
 go_quiet (fail)
 replace HX:=Lib.hid (HX1.out.drewNB nq)
 replace HE:=Lib.hid (HE.out.drewN nq)
 replace HR:=Lib.hid (HR.out.drewN nq)
 replace hx2:=hx2.drewN nq
 clear k0 HX1 hx8
 generalize w1.drewN nq=w2 at *
 have k0:=HE.out.has 0 _ rfl
 have k2:=hx2 2 _ rfl
 rw [hv] at k2
 have hj2:Has w2 g 16 csj:=hj0.ext HX.out
 have i1:(2:Int) < (l.length:Int) + 1:=by have:=HL.out;omega
 have i2:2 < l.length + 1:=by have:=HL.out;omega
 clear hv hj0
 go_wp2_with (first | ((with_reducible show Jw (Op.load 44 _));refine wpList_load_has rfl 44 _ rfl rfl (hj2) agg_E hj8 ?_) | ((with_reducible show Jw (Op.store 44 _ _));refine wpList_store_blk rfl 44 _ _ rfl (HR.out) rfl (cs:=csj) (rfl) agg_E (hj8) rfl (HJF.out.oneE) ?_;intro w6 hb6 hg6) | ((with_reducible show bodyPost _ _ _ _ _ _);refine Hid.out ?_))
 refine Lib.hid ?_
 refine post_ret_blk rfl rfl hb6.has agg_E hj8 rfl ⟨_,rfl,HJF.out.ext (HX.out.grown hg6 (by omega)),HX.out.grown hg6 (by omega)⟩
set_option maxRecDepth 100000 in
set_option maxHeartbeats 2000000 in
theorem f1_cond1 {wb:World} {ls:List Signal} {D M g cap:Nat} {sv pv cv s0:Value} (e x:E) (l:List E) (w:World) (hone : [sv,pv,cv].all (·.oneCell')=true) (hD:Blk wb D #[sv,pv,cv] 26) (hS:Sigs wb sv ls) (hx:Ext wb w) (hM:M ≤ w.heap.size) (hE0:Es w s0 e.l) (hrow:RowIs VE 44 8 M (.slice (some ⟨g,0,none⟩) (x :: l).length cap) (x :: l) w) (b3:(e.op == 3)=false) (b6:(e.op == 6)=true) (ht:isNum x=true) (hv:x.v=1) (y:E) (hy:(x :: l)[1]? = some y) :
  Calls Tryz.prog 99 #[.agg (e.cells s0).toArray,.slice (some ⟨g,0,none⟩) (x :: l).length cap,.pointer (some ⟨D,0,none⟩)] w fun r w'=>∃ cs',r=.returned (.agg cs'.toArray)∧FV VE M w' cs' (y)∧Ext w w':=by
 obtain ⟨hjl,hye⟩:=List.getElem?_eq_some_iff.1 hy
 obtain ⟨csj,hj0,hj8,hjf⟩:=hrow.get (k:=1) hjl
 rw [hye] at hjf
 have HJF:=Lib.hid hjf
 have HL:=Lib.hid (show 1 < l.length + 1 by rw [← List.length_cons (a:=x)];exact hjl)
 clear hjf hjl hye hy
 obtain ⟨csx,hx0,hx8,hxf⟩:=hrow.get (k:=0) (by simp)
 rw [Nat.zero_mul] at hx0
 rw [Jb] at hxf
 obtain ⟨sx,rfl,-⟩:=hxf.here
 have hn0:(x :: l).length=l.length + 1:=rfl
 have HROW:=Lib.hid hrow
 have HXF:=Lib.hid hxf
 have HD:=Lib.hid (fun W (h:Ext w W)=>hD.ext (hx.trans h))
 have HSG:=Lib.hid (fun W (h:Ext w W)=>hS.ext (hx.trans h))
 have HM:=Lib.hid hM
 have x1:=ext_alloc w (.cells (e.cells s0).toArray 44)
 have x2:=ext_alloc (w.alloc (.cells (e.cells s0).toArray 44)) (.cells (zE.cells (.slice none 0 0)).toArray 44)
 have hE:=(Blk.new w (e.cells s0).toArray 44).ext x2
 have hR:=Blk.new (w.alloc (.cells (e.cells s0).toArray 44)) (zE.cells (.slice none 0 0)).toArray 44
 have hX:=x1.trans x2
 have hx1:=(hx0.ext hX)
 have HSZ:=Lib.hid (show ((w.alloc (.cells (e.cells s0).toArray 44)).alloc (.cells (zE.cells (.slice none 0 0)).toArray 44)).heap.size=w.heap.size + 1 + 1 by simp only [World.size_alloc])
 simp only [World.size_alloc] at hR
 have HE00:=Lib.hid hE0
 clear x1 x2 hx0 hxf hrow hM hD hS hx hE0
 rw [hn0] at *
 rw [zE_cells] at *
 have HN:=Lib.hid (fun W (h:Ext w W)=>number_calls x _ W ((HXF.out.ext h).here))
 go_enter Tryz.func99,Tryz.ntmps99
 go_upto_region 1 with fail
 generalize (w.alloc _).alloc _=w0 at *
 have HE:=Lib.hid hE
 have HR:=Lib.hid hR
 have HX:=Lib.hid hX
 clear hE hR hX
 have q1:((l.length:Int) + 1 == 0)=false:=by rw [beq_eq_false_iff_ne];omega
 have q2:decide ((0:Int) < (l.length:Int) + 1)=true:=decide_eq_true (by omega)
 go_upto_region 2 with (first | ((with_reducible show Jw (Op.load 44 _));refine wpList_load_has rfl 44 _ rfl rfl (hx1) agg_E hx8 ?_) | (go_at_call 100;refine (HN.out _ HX.out).mono ?_;rintro r w1 ⟨rfl,hy1⟩))
 replace HE:=Lib.hid (HE.out.ext hy1)
 replace HR:=Lib.hid (HR.out.ext hy1)
 have HX1:=Lib.hid (HX.out.trans hy1)
 have hx2:=hx1.ext hy1
 clear hy1 hx1 HN q2
 have k0:=HE.out.has 0 _ rfl
 rw [show isNum x=true from ht] at *
 clear ht
 go_upto_region 4 with fail
 go_quiet (fail)
 replace HX:=Lib.hid (HX1.out.drewNB nq)
 replace HE:=Lib.hid (HE.out.drewN nq)
 replace HR:=Lib.hid (HR.out.drewN nq)
 replace hx2:=hx2.drewN nq
 clear k0 HX1 hx8
 generalize w1.drewN nq=w2 at *
 have k0:=HE.out.has 0 _ rfl
 have k2:=hx2 2 _ rfl
 rw [hv] at k2
 have hj2:Has w2 g 8 csj:=hj0.ext HX.out
 have i1:(1:Int) < (l.length:Int) + 1:=by have:=HL.out;omega
 have i2:1 < l.length + 1:=by have:=HL.out;omega
 clear hv hj0
 go_wp2_with (first | ((with_reducible show Jw (Op.load 44 _));refine wpList_load_has rfl 44 _ rfl rfl (hj2) agg_E hj8 ?_) | ((with_reducible show Jw (Op.store 44 _ _));refine wpList_store_blk rfl 44 _ _ rfl (HR.out) rfl (cs:=csj) (rfl) agg_E (hj8) rfl (HJF.out.oneE) ?_;intro w6 hb6 hg6) | ((with_reducible show bodyPost _ _ _ _ _ _);refine Hid.out ?_))
 refine Lib.hid ?_
 refine post_ret_blk rfl rfl hb6.has agg_E hj8 rfl ⟨_,rfl,HJF.out.ext (HX.out.grown hg6 (by omega)),HX.out.grown hg6 (by omega)⟩
set_option maxRecDepth 100000 in
set_option maxHeartbeats 2000000 in
theorem f1_nil {D M cap:Nat} {a:Option Addr} {s0:Value} (e:E) (w:World) (hl:e.l=[]) (hE0:Es w s0 e.l) :
  Calls Tryz.prog 99 #[.agg (e.cells s0).toArray,.slice a 0 cap,.pointer (some ⟨D,0,none⟩)] w fun r w'=>∃ cs',r=.returned (.agg cs'.toArray)∧FV VE M w' cs' e∧Ext w w':=by
 have hone:(e.cells s0).all (·.oneCell')=true:=by simp [hE0.one,one_int]
 have HF:=Lib.hid (show ∀ W,VE W (e.cells s0) e from fun W=>VE.none hl hE0)
 have x1:=ext_alloc w (.cells (e.cells s0).toArray 44)
 have x2:=ext_alloc (w.alloc (.cells (e.cells s0).toArray 44)) (.cells (zE.cells (.slice none 0 0)).toArray 44)
 have hE:=(Blk.new w (e.cells s0).toArray 44).ext x2
 have hR:=Blk.new (w.alloc (.cells (e.cells s0).toArray 44)) (zE.cells (.slice none 0 0)).toArray 44
 have hX:=x1.trans x2
 simp only [World.size_alloc] at hR
 clear x1 x2 hE0 hl
 rw [zE_cells] at *
 go_enter Tryz.func99,Tryz.ntmps99
 go_upto_region 1 with fail
 generalize (w.alloc _).alloc _=w0 at *
 have HE:=Lib.hid hE
 have HR:=Lib.hid hR
 have HX:=Lib.hid hX
 have k0:=hE.has
 clear hE hR hX
 go_wp2_with (first | ((with_reducible show Jw (Op.load 44 _));refine wpList_load_has rfl 44 _ rfl rfl (k0) agg_E rfl ?_) | ((with_reducible show Jw (Op.store 44 _ _));refine wpList_store_blk rfl 44 _ _ rfl (HR.out) rfl (cs:=e.cells s0) (rfl) agg_E (rfl) rfl (hone) ?_;intro w6 hb6 hg6) | ((with_reducible show bodyPost _ _ _ _ _ _);refine Hid.out ?_))
 refine Lib.hid ?_
 refine post_ret_blk rfl rfl hb6.has agg_E rfl rfl ⟨_,rfl,fun W _=>HF.out W,HX.out.grown hg6 (by omega)⟩
end Go.Proofs.YtemabheegnngdaaGreat
