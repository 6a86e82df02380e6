/- Laws and walks that a claim of this seat leans on: AheadL, AppL, FewIns, Ahead, LiftL. -/
import Derived.Test.YtoaamjgfhppppaaGreatY25
import Derived.Test.YtoaamjgfhppppaaGreatY26
import Derived.Test.YtoaamjgfhppppaaGreatY31
import Derived.Test.YtoaamjgfhppppaaGreatY32
import Derived.Test.YtoaamjgfhppppaaGreatY30
import Derived.Test.YtoaamjgfhppppaaGreatY33
import Derived.Test.YtoaamjgfhppppaaGreatY00
set_option maxRecDepth 100000
set_option maxHeartbeats 8000000
set_option linter.all false
namespace Go.Proofs.YtoaamjgfhppppaaGreat
open Go.RowKit
theorem ahead_cases (d:Flat) (ins more:List (List Nat)):(∃ e,e≠0/\cycR d ins=([],[],e)/\cycR d (ins++more)=([],[],e)) \/
  (∃ a b,cycR d ins=(a,b,0)/\a.length=ins.length/\b.length=ins.length/\(cycR d (ins++more)=([],[],1)\/∃ c g,cycR d (ins++more)=(c,g,0)/\c.length=ins.length+more.length/\g.length=ins.length+more.length/\c.take ins.length=a/\g.take ins.length=b)):=by
 unfold cycR
 by_cases hl:(lookM d).1=0
 ·simp only [if_pos hl]
  obtain ⟨n1,n2⟩:=cyc_ahead d ins more (resetM d)
  cases hm:cycM d ins (resetM d) with
  | none=>exact .inl ⟨1,by decide,rfl,by rw [n1 hm]⟩
  | some r =>
   obtain ⟨h1,h2,h3⟩:=n2 r.1 r.2 hm
   refine .inr ⟨_,_,rfl,h1,h2,?_⟩
   cases hc:cycM d (ins++more) (resetM d) with
   | none=>exact .inl rfl
   | some q =>
    obtain ⟨h4,h5,h6,h7⟩:=h3 q.1 q.2 hc
    exact .inr ⟨_,_,rfl,h4,by rw [h5,h4],by rw [<-h1];exact h6,by rw [<-h2];exact h7⟩
 ·simp only [if_neg hl]
  exact .inl ⟨_,hl,rfl,rfl⟩
theorem UsL.vals {w:World} {a:Option Addr} {n c:Nat} {ll:List (List Nat)} (h:UsL w (.slice a n c) ll):∃ us:List Value,us.length=ll.length/\n=ll.length/\AllL (Us w) us ll/\(us.all (·.oneCell')=true)/\n<=c/\(0<n->∃ b o,a=some ⟨b,o,none⟩/\Has w b o us):=by
 obtain ⟨a',b,o,cap,he,hc1,hc2,ha,hr⟩:=h.open
 injection he with e1 e2 e3
 subst e1 e2 e3
 have key:∀ (ll:List (List Nat)) (o:Nat),Rows 1 (fun (x:List Nat) b o=>∃ u,Has w b o [u]/\Us w u x) ll b o->∃ us:List Value,us.length=ll.length/\AllL (Us w) us ll/\(us.all (·.oneCell')=true)/\Has w b o us:=by
  intro ll
  induction ll with
  | nil=>intro o _;exact ⟨[],rfl,trivial,rfl,fun j u hj=>by simp at hj⟩
  | cons x ll ih =>
   intro o hr
   obtain ⟨⟨u,hu,huu⟩,hr2⟩:=hr
   obtain ⟨us,h1,h2,h3,h4⟩:=ih _ hr2
   obtain ⟨ua,-,-,uc,rfl,-,-,-,-⟩:=huu.open
   refine ⟨_::us,by simp [h1],⟨huu,h2⟩,by rw [List.all_cons,h3];rfl,fun j v hj=>?_⟩
   cases j with
   | zero=>exact hu 0 v hj
   | succ j=>have:=h4 j v hj;rwa [show o+1+j=o+(j+1) by omega] at this
 obtain ⟨us,h1,h2,h3,h4⟩:=key ll o hr
 exact ⟨us,h1,rfl,h2,h3,hc1,fun h0=>⟨b,o,ha h0,h4⟩⟩
theorem AllL.append {α:Type} {C:Value->List α->Prop}:∀ {us vs:List Value} {ll mm:List (List α)},AllL C us ll->AllL C vs mm->AllL C (us++vs) (ll++mm)
 | [],_,[],_,_,h=>h
 | _::_,_,_::_,_,h1,h2=>⟨h1.1,AllL.append h1.2 h2⟩
 | [],_,_::_,_,h,_=>h.elim
 | _::_,_,[],_,h,_=>h.elim
theorem run_appV {t T:TypeId} (hT:AppT Tryz.prog t T 1 24) {w:World} {N:Nat} {v:Value} {us:List Value} (hown:w.ownsRow N T 1 v us.length us) {ty:TypeId} {a:Option Addr} {n c:Nat} {news:List Value} (hl:news.length=n) (hone:news.all (·.oneCell')=true)
  (hx:0<n->∃ b o,a=some ⟨b,o,none⟩/\Has w b o news) (hn:us.length+n<=16777216) (hbase:N<=w.heap.size) :
  ∃ v' w',(Builtin.append_ #[t,t] ty #[v,.slice a n c]).run Tryz.prog w=.ok v' w'/\w'.ownsRow N T 1 v' (us++news).length (us++news)/\w.grownBy w' v.ownBlock:=by
 by_cases h0:0<n
 ·obtain ⟨b,o,rfl,hh⟩:=hx h0
  obtain ⟨v',w',hr,h5,h6,-⟩:=run_app (P:=Tryz.prog) (ty:=ty) (a:=⟨b,o,none⟩) (m:=n) (c:=c) (news:=news) hT hown (fun _=>h0) (by rw [hl];omega) (fun j u hj=>by
   have hadd:(⟨b,o,none⟩:Addr).add j=⟨b,o+j,none⟩:=by unfold Addr.add;split<;>simp_all
   rw [hadd];exact hh j u hj) hone hn hbase
  exact ⟨v',w',hr,by rw [List.length_append,hl];exact h5,h6⟩
 ·obtain rfl:n=0:=by omega
  obtain rfl:news=[]:=List.eq_nil_of_length_eq_zero hl
  obtain ⟨ht,hinfo,hsz,hby⟩:=hT
  cases hi:Tryz.prog.info? T with
  | none=>simp [hi] at hinfo
  | some i =>
   have hsrc:Src Tryz.prog i.size t (.slice a 0 c) 0 [] w:=by
    cases a with
    | none=>exact Src.ofNil w ht c
    | some a=>exact Src.ofSlice w ht a 0 c [] (by simp) (by intro j u hj;simp at hj) (by simp)
   have hv:∃ av cv,v=.slice av us.length cv/\us.length<=cv:=by
    rcases hown.2 with ⟨e,h0⟩ | ⟨g,c2,cur,e,hb,hg,hnc,-⟩
    ·exact ⟨_,_,by rw [e,h0],by omega⟩
    ·exact ⟨_,_,e,hnc⟩
   obtain ⟨av,cv,rfl,hle⟩:=hv
   exact ⟨_,w,run_append_nothing w t t ty T i ht hi av us.length cv hle _ hsrc,by rw [List.append_nil];exact hown,⟨rfl,rfl,rfl,Nat.le_refl _,fun _ _ _=>rfl⟩⟩
theorem step_bs0 {P:Program} {ops:Array Oper} {o:Oper} {a:Act} {w:World} {K:Act->World->Prop} {Q:Exit->Act->World->Prop} {E:Prop} (hw:Region.wanted o (yielded ops a.tmps)=true) (t:TypeId)
  (ho:o.op=.buildSlice t 0 #[]) {e:TypeId} {size bytes:Nat} (hT:AppT P t e size bytes)
  (h:K (a.put o.dst (.slice (some ⟨w.heap.size,0,none⟩) 0 0)) (w.alloc (.cells #[] e))):if Region.wanted o (yielded ops a.tmps)=true then Oper.wp P o a w K Q else E:=by
 rw [if_pos hw]
 obtain ⟨ht,hinfo,hsz,hby⟩:=hT
 cases hi:P.info? e with
 | none=>simp [hi] at hinfo
 | some i =>
  have hr:(Instr.buildSlice t 0 #[]).run P w=.ok (.slice (some ⟨w.heap.size,0,none⟩) 0 0) (w.alloc (.cells #[] e)):=by
   simp [Instr.buildSlice,run_underlying ht,sizeOf,typeInfo,hi,newRow,Instr.fill]
   congr 2
   apply Array.eq_empty_of_size_eq_zero;simp
  unfold Oper.wp execOp
  simp only [ho,List.map_toArray,List.map_nil,Sem.run_bind,hr,Result.andThen_ok,Sem.run_pure]
  exact h
theorem step_appV {t T:TypeId} {ops:Array Oper} {o:Oper} {a:Act} {w:World} {K:Act->World->Prop} {Q:Exit->Act->World->Prop} {E:Prop} (hw:Region.wanted o (yielded ops a.tmps)=true) (s x:Operand)
  (ho:o.op=.call { callee:=.builtin .append,args:=#[s,x],argTypes:=#[t,t] }) (hT:AppT Tryz.prog t T 1 24) {N:Nat} {v:Value} {us:List Value} (hs:a.eval s=v) (hown:w.ownsRow N T 1 v us.length us)
  {ad:Option Addr} {n c:Nat} (hx:a.eval x=.slice ad n c) {news:List Value} (hl:news.length=n) (hone:news.all (·.oneCell')=true) (hh:0<n->∃ b o,ad=some ⟨b,o,none⟩/\Has w b o news) (hn:us.length+n<=16777216) (hbase:N<=w.heap.size)
  (h:∀ v' w',w'.ownsRow N T 1 v' (us++news).length (us++news)->w.grownBy w' v.ownBlock->K (a.put o.dst v') w'):if Region.wanted o (yielded ops a.tmps)=true then Oper.wp Tryz.prog o a w K Q else E:=by
 rw [if_pos hw]
 obtain ⟨v',w',hr,h1,h2⟩:=run_appV hT hown (ty:=o.type) (c:=c) hl hone hh hn hbase
 unfold Oper.wp execOp
 simp only [ho,resolve,invoke,builtin,Sem.run_bind,Sem.run_pure,Result.andThen_ok,List.map_toArray,List.map_cons,List.map_nil,hs,hx]
 rw [hr]
 exact h v' w' h1 h2
theorem AllL.len {α:Type} {C:Value->List α->Prop}:∀ {us:List Value} {ll:List (List α)},AllL C us ll->us.length=ll.length
 | [],[],_=>rfl
 | _::_,_::_,h=>by rw [List.length_cons,List.length_cons,AllL.len h.2]
 | [],_::_,h=>h.elim
 | _::_,[],h=>h.elim
theorem ownsRow_usL {w:World} {N:Nat} {T:TypeId} {v:Value} {us:List Value} {ll:List (List Nat)} (h:w.ownsRow N T 1 v us.length us) (hc:AllL (Us w) us ll):UsL w v ll:=by
 rcases h.2 with ⟨rfl,h0⟩ | ⟨g,cap,cur,rfl,hb,hg,hnc,hcm,hcs,htake⟩
 ·obtain rfl:ll=[]:=List.eq_nil_of_length_eq_zero (by rw [<-hc.len,h0])
  exact Sl.nil _ _
 ·exact slLc (flat_own (N:=N) (cap:=cap) (size:=1) hg htake) hnc hcm rfl hc
def fewIns (l:List (List Nat)) (most:Int):Bool:=!decide (most<(l.length:Int))&&l.all fun x=>!decide ((60:Int)<(x.length:Int))
theorem FewIns_calls (l:List (List Nat)) (v:Value) (most:Int) (w:World) (h:UsL w v l) (hm:i64r most) :
  Calls Tryz.prog 28 #[v,.int .i64 most] w fun r w'=>r=.returned (.bool (fewIns l most))/\Ext w w':=by
 obtain ⟨a,b,o,c,rfl,hc1,hc2,ha,hr⟩:=h.open
 have HA:=Jh ha
 have HR:=Jh hr
 obtain ⟨t,ht⟩:∃ t,fewIns l most=t:=⟨_,rfl⟩
 have HT:=Jh ht
 rw [ht]
 unfold i64r at hm
 clear h ha hr ht
 go_enter Tryz.func28,Tryz.ntmps28
 by_cases hl:most<(l.length:Int)
 ·have bl:decide (most<(l.length:Int))=true:=decide_eq_true hl
  obtain rfl:t=false:=by rw [<-HT.out];unfold fewIns;rw [bl];rfl
  clear hl
  go_wp2_with fail
  go_ret
  exact ⟨rfl,Below.refl _ _⟩
 have bl:decide (most<(l.length:Int))=false:=decide_eq_false hl
 have HT2:=Jh (show (l.all fun x=>!decide ((60:Int)<(x.length:Int)))=t by rw [<-HT.out];unfold fewIns;rw [bl];rfl)
 clear hl HT
 go_wp2_with fail
 clear bl
 go_loopw [5] (fun i wr=>∃ k:Nat,k<=l.length/\i=.int .i64 k/\((l.drop k).all fun x=>!decide ((60:Int)<(x.length:Int)))=t/\Ext w wr) (fun i _=>l.length-(intOf i).toNat)
 case atStart=>exact ⟨0,Nat.zero_le _,rfl,by rw [List.drop_zero];exact HT2.out,Below.refl _ _⟩
 case round =>
  obtain ⟨k,hk,rfl,hm2,hx⟩:=hrel
  have HM:=Jh hm2
  have HXR:=Jh hx
  clear hm2 hx
  by_cases hlt:k<l.length
  ·obtain rfl:=HA.out (by omega)
   obtain ⟨u,hu,huu⟩:=HR.out.get (List.getElem?_eq_getElem hlt)
   obtain ⟨ua,ub,uo,uc,rfl,-,-,-,-⟩:=huu.open
   have y:=(Has.ext hu HXR.out) 0 _ rfl
   simp only [Nat.mul_one,Nat.add_zero] at y
   have hst:=HM.out
   rw [List.drop_eq_getElem_cons hlt,List.all_cons] at hst
   generalize l[k]=x at *
   have HST:=Jh hst
   clear hst hu huu
   by_cases hg:(60:Int)<(x.length:Int)
   ·have bg:decide ((60:Int)<(x.length:Int))=true:=decide_eq_true hg
    obtain rfl:t=false:=by rw [<-HST.out,bg];rfl
    clear hg
    go_wp2_with fail
    go_ret
    exact ⟨rfl,HXR.out⟩
   ·have bg:decide ((60:Int)<(x.length:Int))=false:=decide_eq_false hg
    have HN:=Jh (show ((l.drop (k+1)).all fun x=>!decide ((60:Int)<(x.length:Int)))=t by rw [<-HST.out,bg];rfl)
    clear hg
    go_wp2_with fail
    go_roundw
    case rel=>exact ⟨k+1,hlt,by go_num,HN.out,HXR.out⟩
    case measure=>simp [intOf];omega
  ·obtain rfl:k=l.length:=by omega
   obtain rfl:t=true:=by rw [<-HM.out,List.drop_length];rfl
   go_wp2_with fail
   go_ret
   exact ⟨rfl,HXR.out⟩
theorem fewIns_len {l:List (List Nat)} {m:Int} (h:fewIns l m=true):(l.length:Int)<=m:=by
 unfold fewIns at h
 simp at h
 omega
theorem Sl.take {α:Type} {size:Nat} {R:α->Nat->Nat->Prop} {a:Option Addr} {n c:Nat} {l:List α} (h:Sl size R (.slice a n c) l) (k:Nat) (hk:k<=l.length):Sl size R (.slice a k c) (l.take k):=by
 obtain ⟨b,o,⟨a',c',e,h1,h2,h3⟩,hr⟩:=h
 injection e with e1 e2 e3
 subst e1 e2 e3
 refine ⟨b,o,⟨a,c,by rw [List.length_take,Nat.min_eq_left hk],by rw [List.length_take];omega,h2,fun h=>h3 (by rw [List.length_take] at h;omega)⟩,?_⟩
 clear h1 h2 h3
 induction l generalizing k o with
 | nil=>simpa using hr
 | cons x l ih =>
  cases k with
  | zero=>trivial
  | succ k=>exact ⟨hr.1,ih k (by simpa using hk) (o+size) hr.2⟩
theorem cyc_lens {d:Flat} (hok:d.ok) (ins:List (List Nat)):(∀ x∈(cycR d ins).1,x.length<=1099511627776)/\∀ x∈(cycR d ins).2.1,x.length<=1099511627776:=by
 have h1:=hok.signals
 have h2:=hok.checks
 have key:∀ (l:List (List Nat)) v r,cycM d l v=some r->(∀ x∈r.1,x.length<=1048576)/\∀ x∈r.2,x.length<=1048576:=by
  intro l
  induction l with
  | nil=>intro v r h;rw [cycM] at h;injection h with h;subst h;exact ⟨by simp,by simp⟩
  | cons i l ih =>
   intro v r h
   rw [cycM_cons] at h
   cases hp:putM d.signals v i with
   | none=>rw [hp] at h;cases h
   | some w =>
    rw [hp] at h
    simp only [Option.map_eq_some_iff] at h
    obtain ⟨q,hq,rfl⟩:=h
    obtain ⟨a,b⟩:=ih _ _ hq
    refine ⟨fun x hx=>?_,fun x hx=>?_⟩
    ·rcases List.mem_cons.1 hx with rfl | hx
     ·exact Nat.le_trans (outV_len _ _) h1
     ·exact a x hx
    ·rcases List.mem_cons.1 hx with rfl | hx
     ·unfold chkV;rw [List.length_map];exact h2
     ·exact b x hx
 unfold cycR
 by_cases hl:(lookM d).1=0
 ·simp only [if_pos hl]
  cases hm:cycM d ins (resetM d) with
  | none=>exact ⟨by simp,by simp⟩
  | some r =>
   obtain ⟨a,b⟩:=key _ _ _ hm
   exact ⟨fun x hx=>Nat.le_trans (a x hx) (by decide),fun x hx=>Nat.le_trans (b x hx) (by decide)⟩
 ·simp only [if_neg hl];exact ⟨by simp,by simp⟩
theorem CycleAhead_calls (d:Flat) (v:Value) (ins:List (List Nat)) (iv:Value) (more:List (List Nat)) (mv:Value) (w:World) (hF:FlatV w v d) (hok:d.ok) (hi:UsL w iv ins) (h64i:∀ l∈ins,us64 l) (hli:ins.length+1<=1048576)
  (hm:UsL w mv more) (h64m:∀ l∈more,us64 l) (hlm:more.length+1<=1048576) :
  Calls Tryz.prog 8 #[v,iv,mv] w fun r w'=>r=.returned (.bool true)/\Ext w w':=by
 have HF:=Jh (fun W (h:Ext w W)=>hF.ext h)
 have HFW:=Jh (fun W (h:Ext w W)=>few13_calls d v [] (.slice none 0 0) W (hF.ext h) hok (Sl.nil _ _))
 have HFI:=Jh (fun W (h:Ext w W)=>FewIns_calls ins iv 8 W (hi.ext h) (by unfold i64r;decide))
 have HFM:=Jh (fun W (h:Ext w W)=>FewIns_calls more mv 8 W (hm.ext h) (by unfold i64r;decide))
 have HRI:=Jh (fun W (h:Ext w W)=>Run_calls13 d v ins iv W (hF.ext h) hok (hi.ext h) h64i (by omega))
 have HRB:=Jh (fun W (h:Ext w W) u (hu:UsL W u (ins++more)) (hl:(ins++more).length<=1048576)=>Run_calls13 d v (ins++more) u W (hF.ext h) hok hu (fun l hl=>(List.mem_append.1 hl).elim (h64i l) (h64m l)) hl)
 have HLN:=Jh (cyc_lens hok ins)
 have HIS:=Jh hi
 have HMS:=Jh hm
 obtain ⟨sv,pv,cv,rfl,hS,hP,hC⟩:=hF
 obtain ⟨ia,ib,io,ic,rfl,-,-,-,-⟩:=hi.open
 obtain ⟨ma,mb,mo,mc,rfl,-,-,-,-⟩:=hm.open
 have x1:=ext_alloc w (.cells [sv,pv,cv].toArray 26)
 have hD:=Blk.new w [sv,pv,cv].toArray 26
 clear hS hP hC hok hi hm h64i h64m
 go_enter Tryz.func8,Tryz.ntmps8
 go_upto_region 1 with fail
 generalize w.alloc _=w0 at *
 have HX0:=Jh x1
 have HD0:=Jh hD
 clear x1 hD
 go_upto_region 4 with (go_at_call 17;refine (live13_calls _).mono ?_;rintro r w1 ⟨rfl,hx1⟩)
 have HD:=Jh (HD0.out.ext hx1)
 have HX:=Jh (HX0.out.trans hx1)
 clear hx1 HD0 HX0
 have d1:=HD.out.has
 obtain ⟨fw,hfw⟩:∃ fw,few13 d []=fw:=⟨_,rfl⟩
 rw [hfw] at HFW
 clear hfw
 cases fw
 ·go_wp2_with (first | ((with_reducible show Jl 26);refine Jm 26 (d1) agg_Flat rfl ?_) | (go_at_call 18;refine (HFW.out w1 HX.out).mono ?_;rintro r w2 ⟨rfl,hx2⟩))
  go_ret
  exact ⟨rfl,HX.out.trans hx2⟩
 obtain ⟨f1,hf1⟩:∃ f,fewIns ins 8=f:=⟨_,rfl⟩
 obtain ⟨f2,hf2⟩:∃ f,fewIns more 8=f:=⟨_,rfl⟩
 have HN1:=Jh hf1
 have HN2:=Jh hf2
 rw [hf1] at HFI
 rw [hf2] at HFM
 clear hf1 hf2
 cases f1
 ·go_wp2_with (first | ((with_reducible show Jl 26);refine Jm 26 (d1) agg_Flat rfl ?_) | (go_at_call 18;refine (HFW.out w1 HX.out).mono ?_;rintro r w2 ⟨rfl,hx2⟩;have HX2:=Jh (HX.out.trans hx2)) | (go_at_call 28;refine (HFI.out w2 HX2.out).mono ?_;rintro r w3 ⟨rfl,hx3⟩))
  go_ret
  exact ⟨rfl,HX2.out.trans hx3⟩
 cases f2
 ·go_upto_region 5 with (first | ((with_reducible show Jl 26);refine Jm 26 (d1) agg_Flat rfl ?_) | (go_at_call 18;refine (HFW.out w1 HX.out).mono ?_;rintro r w2 ⟨rfl,hx2⟩;have HX2:=Jh (HX.out.trans hx2)) | (go_at_call 28;first | (refine (HFM.out w3 HX3.out).mono ?_;rintro r w4 ⟨rfl,hx4⟩) | (refine (HFI.out w2 HX2.out).mono ?_;rintro r w3 ⟨rfl,hx3⟩;have HX3:=Jh (HX2.out.trans hx3))))
  go_wp2_with fail
  go_ret
  exact ⟨rfl,HX3.out.trans hx4⟩
 go_upto_region 6 with (first | ((with_reducible show Jl 26);refine Jm 26 (d1) agg_Flat rfl ?_) | (go_at_call 18;refine (HFW.out w1 HX.out).mono ?_;rintro r w2 ⟨rfl,hx2⟩;have HX2:=Jh (HX.out.trans hx2)) | (go_at_call 28;first | (refine (HFM.out w3 HX3.out).mono ?_;rintro r w4 ⟨rfl,hx4⟩) | (refine (HFI.out w2 HX2.out).mono ?_;rintro r w3 ⟨rfl,hx3⟩;have HX3:=Jh (HX2.out.trans hx3))))
 have HX4:=Jh (HX3.out.trans hx4)
 have HD4:=Jh (HD.out.ext (hx2.trans (hx3.trans hx4)))
 clear hx2 hx3 hx4 d1 HD HX HFW HFI HFM HX2 HX3
 have d4:=HD4.out.has
 have HC:=Jh (HRI.out w4 HX4.out)
 have HAC:=Jh (ahead_cases d ins more)
 obtain ⟨⟨ca,cb,ce⟩,hca⟩:∃ x,cycR d ins=x:=⟨_,rfl⟩
 obtain ⟨⟨cc,cg,cf⟩,hcc⟩:∃ x,cycR d (ins++more)=x:=⟨_,rfl⟩
 rw [hca] at HC HLN
 rw [hca,hcc] at HAC
 rw [hcc] at HRB
 clear hca hcc HRI
 go_upto_region 7 with (first | ((with_reducible show Jl 26);refine Jm 26 (d4) agg_Flat rfl ?_) | (go_at_call 29;refine HC.out.mono ?_;rintro r w5 ⟨ua,ub,rfl,hra,hrb,hx5⟩))
 have HRA:=Jh hra
 have HRT:=Jh hrb
 have HX5:=Jh (HX4.out.trans hx5)
 have HD5:=Jh (HD4.out.ext hx5)
 clear hra hrb hx5 d4 HD4 HX4 HC
 obtain ⟨us,hul,-,hua,huo,-,huh⟩:=HIS.out.vals
 obtain ⟨ms,hml,-,hma,hmo,-,hmh⟩:=HMS.out.vals
 have HUL:=Jh hul
 have HML:=Jh hml
 have HUA:=Jh hua
 have HMA:=Jh hma
 have HUO:=Jh huo
 have HMO:=Jh hmo
 have HUH:=Jh huh
 have HMH:=Jh hmh
 clear hul hml hua hma huo hmo huh hmh
 refine Jg w5 fun hH=>?_
 try simp only [J]
 (refine Jt 0 (.agg [sv,pv,cv].toArray) rfl (yif_load rfl 26 _ rfl rfl (fun W hW=>(HD5.out.ext hW).has) agg_Flat rfl) hH ?_;try simp only [J])
 (refine Jt 2 (.slice ia ins.length ic) rfl (yif_load1 rfl fun _ _=>rfl) hH ?_;try simp only [J])
 (refine Jt 4 (.slice ma more.length mc) rfl (yif_load1 rfl fun _ _=>rfl) hH ?_;try simp only [J])
 (refine Jr 1 rfl fun K hK=>?_)
 refine step_bs0 rfl _ rfl appWords ?_
 have hxs:=ext_alloc w5.drew (.cells #[] 27)
 have hro:(w5.drew.alloc (.cells #[] 27)).ownsRow w5.heap.size 27 1 (.slice (some ⟨w5.drew.heap.size,0,none⟩) 0 0) ([]:List Value).length [] :=
  ⟨rfl,.inr ⟨w5.drew.heap.size,0,#[],rfl,Nat.le_refl _,Blk.new _ #[] 27,Nat.le_refl _,by decide,rfl,rfl⟩⟩
 refine hK.out _ _ (hH.trans hxs) (fun hH=>?_)
 clear hK K
 obtain ⟨g0,hg0⟩:∃ g,w5.drew.heap.size=g:=⟨_,rfl⟩
 have HG0:=Jh (show w5.heap.size<=g0 from hg0 ▸ Nat.le_refl _)
 rw [hg0] at hro ⊢
 clear hg0 hxs
 generalize w5.drew.alloc _=w6 at *
 try simp only [J]
 (refine Jr 3 rfl fun K hK=>?_)
 refine step_appV rfl _ _ rfl appWords rfl hro rfl HUL.out HUO.out (fun h0=>by
  obtain ⟨b,o,e,hh⟩:=HUH.out h0
  exact ⟨b,o,e,Has.ext hh (HX5.out.trans hH)⟩) (by simp;omega) hH.size ?_
 intro v7 w7 ho7 hg7
 rw [List.nil_append] at ho7
 have hx7:Ext w5 w7:=Below.grown hH hg7 hH.size (fun k hk=>by cases hk;exact HG0.out)
 refine hK.out _ _ hx7 (fun hH=>?_)
 clear hK K hg7 hro hx7
 have HO7:=Jh ho7
 clear ho7
 try simp only [J]
 (refine Jr 5 rfl fun K hK=>?_)
 refine step_appV rfl _ _ rfl appWords rfl HO7.out rfl HML.out HMO.out (fun h0=>by
  obtain ⟨b,o,e,hh⟩:=HMH.out h0
  exact ⟨b,o,e,Has.ext hh (HX5.out.trans hH)⟩) (by rw [HUL.out];omega) hH.size ?_
 intro v8 w8 ho8 hg8
 have hx8:Ext w5 w8:=Below.grown hH hg8 hH.size (fun k hk=>(ownsRow_at HO7.out hk).1)
 have hal:AllL (Us w8) (us++ms) (ins++more):=AllL.append (AllL.mono (fun u x h=>h.ext (HX5.out.trans hx8)) HUA.out) (AllL.mono (fun u x h=>h.ext (HX5.out.trans hx8)) HMA.out)
 have HU8:=Jh (ownsRow_usL ho8 hal)
 refine hK.out _ _ hx8 (fun hH=>?_)
 clear hK K hg8 ho8 hx8 hal HO7 HUA HMA HUO HMO HUH HMH HUL HML
 try simp only [J]
 (refine Jr 6 rfl fun K hK=>?_)
 go_simp
 refine (HRB.out w8 (HX5.out.trans hH) _ HU8.out (by rw [List.length_append];have:=fewIns_len HN1.out;have:=fewIns_len HN2.out;omega)).mono ?_
 rintro r w9 ⟨uc,ug,rfl,hrc,hrg,hx9⟩
 have HRC:=Jh hrc
 have HRG:=Jh hrg
 refine hK.out _ _ (hH.trans hx9) (fun hH=>?_)
 clear hK K hx9 hrc hrg HU8
 try simp only [J]
 (refine Jt 7 (.tuple #[uc,ug,.int .i64 cf]) rfl (yif_load1 rfl fun _ _=>rfl) hH ?_;try simp only [J])
 (refine Jt 8 (uc) rfl (yif_load1 rfl (by intro W hW;clear hW;go_simp)) hH ?_;try simp only [J])
 (refine Jt 9 (ug) rfl (yif_load1 rfl (by intro W hW;clear hW;go_simp)) hH ?_;try simp only [J])
 (refine Jt 10 (.int .i64 cf) rfl (yif_load1 rfl (by intro W hW;clear hW;go_simp)) hH ?_;try simp only [J])
 (refine Jt 11 (uc) rfl (yif_load1 rfl fun _ _=>rfl) hH ?_;try simp only [J])
 (refine Jt 12 (ug) rfl (yif_load1 rfl fun _ _=>rfl) hH ?_;try simp only [J])
 (refine Jt 13 (.int .i64 cf) rfl (yif_load1 rfl fun _ _=>rfl) hH ?_;try simp only [J])
 refine Jz ?_
 have HX9:=Jh (HX5.out.trans hH)
 have HA9:=Jh (HRA.out.ext hH)
 have HB9:=Jh (HRT.out.ext hH)
 clear hH HRA HRT HRB
 rcases HAC.out with ⟨e,he,h1,h2⟩ | ⟨a,b,h1,hla,hlb,h2⟩
 ·simp only [Prod.mk.injEq] at h1 h2
  obtain ⟨rfl,rfl,rfl⟩:=h1
  obtain ⟨rfl,rfl,rfl⟩:=h2
  have be:(cf != 0)=true:=by rw [bne_iff_ne];exact he
  clear he
  go_wp2_with fail
  go_ret
  exact ⟨rfl,HX9.out⟩
 simp only [Prod.mk.injEq] at h1
 obtain ⟨rfl,rfl,rfl⟩:=h1
 rcases h2 with h2 | ⟨c,g,h2,hlc,hlg,htc,htg⟩
 ·simp only [Prod.mk.injEq] at h2
  obtain ⟨rfl,rfl,rfl⟩:=h2
  clear hla hlb
  go_wp2_with fail
  go_ret
  exact ⟨rfl,HX9.out⟩
 simp only [Prod.mk.injEq] at h2
 obtain ⟨rfl,rfl,rfl⟩:=h2
 clear HAC
 obtain ⟨c1a,-,-,c1c,rfl,hcc,hcm,-,-⟩:=HRC.out.open
 obtain ⟨g1a,-,-,g1c,rfl,hgc,hgm,-,-⟩:=HRG.out.open
 obtain ⟨a1a,-,-,a1c,rfl,-,-,-,-⟩:=HA9.out.open
 obtain ⟨b1a,-,-,b1c,rfl,-,-,-,-⟩:=HB9.out.open
 have HLA:=Jh hla
 have HLB:=Jh hlb
 have HLC:=Jh hlc
 have HLG:=Jh hlg
 have q1:((cc.length:Int) != (ins.length:Int)+(more.length:Int))=false:=by rw [bne_eq_false_iff_eq,hlc];push_cast;rfl
 have q2:((cg.length:Int) != (cc.length:Int))=false:=by rw [bne_eq_false_iff_eq,hlc,hlg]
 have q3:((ca.length:Int) != (ins.length:Int))=false:=by rw [bne_eq_false_iff_eq,hla]
 have q4:((cb.length:Int) != (ins.length:Int))=false:=by rw [bne_eq_false_iff_eq,hlb]
 have q5:ca.length<=c1c:=by omega
 have q6:cb.length<=g1c:=by omega
 clear hla hlb hlc hlg hcc hgc
 have htc':cc.take ca.length=ca:=by rw [HLA.out];exact htc
 have htg':cg.take cb.length=cb:=by rw [HLB.out];exact htg
 have HTC:=Jh (fun W (h:Ext w9 W)=>(show UsL W (.slice c1a ca.length c1c) ca from by
  have:=Sl.take (HRC.out.ext h) ca.length (by have:=HLA.out;have:=HLC.out;omega)
  rwa [htc'] at this))
 have HTG:=Jh (fun W (h:Ext w9 W)=>(show BsL W (.slice g1a cb.length g1c) cb from by
  have:=Sl.take (HRG.out.ext h) cb.length (by have:=HLB.out;have:=HLG.out;omega)
  rwa [htg'] at this))
 have HR9:=Jh (Rows_calls13 ca ca _ _ w9 HA9.out (HTC.out w9 (Below.refl _ _)) HLN.out.1)
 have HS9:=Jh (fun W (h:Ext w9 W)=>Truths_calls13 cb cb _ _ W (HB9.out.ext h) (HTG.out W h) HLN.out.2)
 simp only [decide_true] at HR9 HS9
 clear htc htg htc' htg' HRC HRG HTC HTG
 go_upto_region 15 with (first | (go_at_call 30;refine HR9.out.mono ?_;rintro r wa ⟨rfl,hxa⟩) | (go_at_call 31;refine (HS9.out wa hxa).mono ?_;rintro r wb ⟨rfl,hxb⟩))
 go_wp2_with fail
 go_ret
 exact ⟨rfl,HX9.out.trans (hxa.trans hxb)⟩
section
variable {H:Type} {enc:TypeId × Value->H} {w:World}
theorem lift_U64ss (m:Nat):∀ cs x,DataW.trod enc Tryz.prog w 0 (fun _=>true) true m 55 cs=some x->∃ (s:Value) (l:List (List Nat)),cs=[s]/\UsL w s l/\(∀ y∈l,us64 y)/\l.length+1<=Rows.uptoBulk x.1:=by
 intro cs x h
 obtain ⟨s,l,e,hs,hok,-,hln⟩:=lift_slice (At:=fun (x:List Nat) b o=>∃ u,Has w b o [u]/\Us w u x) (ok:=us64) (ms:=fun _=>0) Tryz.underlying55 cells_sU (by decide) h (fun k hk cs x b o hh hx=>by
  obtain ⟨s,vs,rfl,hu,h64,-⟩:=lift_U64s k cs x hx
  exact ⟨vs,⟨s,hh,hu⟩,h64,Nat.zero_le _⟩)
 exact ⟨s,l,e,hs,hok,hln⟩
end
end Go.Proofs.YtoaamjgfhppppaaGreat
