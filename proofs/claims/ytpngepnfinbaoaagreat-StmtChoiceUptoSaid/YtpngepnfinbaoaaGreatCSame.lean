/- Laws and walks that a claim of this seat leans on: Same. -/
import Derived.Test.YtpngepnfinbaoaaGreatC02
import Derived.Test.YtpngepnfinbaoaaGreatC00
set_option maxRecDepth 100000
set_option maxHeartbeats 8000000
set_option linter.all false
namespace Go.Proofs.YtpngepnfinbaoaaGreat
open Go.RowKit
def allEq2 {α:Type} (p:α->α->Bool):List α->List α->Bool
 | [],[]=>true
 | x::l,y::r=>p x y&&allEq2 p l r
 | _,_=>false
theorem allEq2_snoc {α:Type} (p:α->α->Bool) (l r:List α) (x y:α) (h:l.length=r.length):allEq2 p (l++[x]) (r++[y])=(allEq2 p l r&&p x y):=by
 induction l generalizing r with
 | nil=>cases r with
  | nil=>simp [allEq2]
  | cons _ _=>simp at h
 | cons a l ih=>cases r with
  | nil=>simp at h
  | cons b r=>simp [allEq2,ih r (by simpa using h),Bool.and_assoc]
theorem allEq2_length {α:Type} (p:α->α->Bool) (l r:List α) (h:¬ l.length=r.length):allEq2 p l r=false:=by
 induction l generalizing r with
 | nil=>cases r with
  | nil=>simp at h
  | cons _ _=>rfl
 | cons a l ih=>cases r with
  | nil=>rfl
  | cons b r=>simp [allEq2,ih r (by simpa using h)]
theorem allEq2_false {α:Type} (p:α->α->Bool) (l r:List α) (k:Nat) (h:k<l.length) (h':k<r.length) (hp:p l[k] r[k]=false):allEq2 p l r=false:=by
 induction l generalizing r k with
 | nil=>simp at h
 | cons a l ih=>cases r with
  | nil=>rfl
  | cons b r =>
   cases k with
   | zero=>simp at hp;simp [allEq2,hp]
   | succ k=>simp at hp;simp [allEq2,ih r k (by simpa using h) (by simpa using h') hp]
theorem EqualFunc_E (g:FuncId) (p:E->E->Bool) (l r:List E) (s s':Value) (w:World) (h:Sl 8 (EAt w) s l) (h':Sl 8 (EAt w) s' r) (eg:Leads Tryz.prog g)
  (hp:∀ wr,Ext w wr->∀ k (hk:k<l.length) (hk':k<r.length) cs cs',VE wr cs l[k]->VE wr cs' r[k]->Calls Tryz.prog g ([.agg cs.toArray,.agg cs'.toArray].toArray++#[]) wr fun r' w'=>r'=.returned (.bool (p l[k] r[k]))/\Ext wr w') :
  Calls Tryz.prog 91 #[s,s',.func (.func g) #[] #[]] w fun r' w'=>r'=.returned (.bool (allEq2 p l r))/\Ext w w':=by
 have HP:=Jh hp
 clear hp
 obtain ⟨a,b,o,cap,hs,hc1,hc2,ha,hr⟩:=h.open
 obtain ⟨a',b',o',cap',hs',hc1',hc2',ha',hr'⟩:=h'.open
 subst hs
 subst hs'
 by_cases hlen:l.length=r.length
 ·have HL:=Jh hlen
  have hneq:(((l.length:Nat):Int) != ((r.length:Nat):Int))=false:=by simp [hlen]
  clear hlen
  go_enter Tryz.func91,Tryz.ntmps91
  go_wp2_with fail
  clear hneq
  go_loopw [7,8,9,17] (fun _ _ _ i wr=>∃ k:Nat,k<=l.length/\i=.int .i64 k/\allEq2 p (l.take k) (r.take k)=true/\Ext w wr) (fun _ _ _ i _=>l.length-(intOf i).toNat)
  case atStart=>exact ⟨0,Nat.zero_le _,rfl,by simp [allEq2],Below.refl _ _⟩
  case round =>
   obtain ⟨k,hk,rfl,hno,hB⟩:=hrel
   have HNO:=Jh hno
   clear hno
   by_cases hlt:k<l.length
   ·have hlt':k<r.length:=by have:=HL.out;omega
    obtain ⟨cs,he1,hn,he2⟩:=VE.get (hr.mono fun x _ b o h=>EAt.ext' hB h) hlt
    obtain ⟨cs',he1',hn',he2'⟩:=VE.get (hr'.mono fun x _ b o h=>EAt.ext' hB h) hlt'
    obtain rfl:=ha (by omega)
    obtain rfl:=ha' (by omega)
    have HX1:=Jh (ext_alloc wr (.cells cs.toArray 31))
    have HX2:=Jh (HX1.out.trans (ext_alloc _ (.cells cs'.toArray 31)))
    have HC:=(HP.out _ (hB.trans HX2.out) k hlt hlt' cs cs' (he2.ext HX2.out) (he2'.ext HX2.out))
    have hb1:=(Has.alloc wr cs 31).ext (ext_alloc _ (.cells cs'.toArray 31))
    have hb2:=Has.alloc (wr.alloc (.cells cs.toArray 31)) cs' 31
    rw [World.size_alloc] at hb2
    have HB:=Jh (hB.trans HX2.out)
    cases hpk:p l[k] r[k] with
    | true =>
     rw [hpk] at HC
     have Hpk:=Jh hpk
     clear hpk
     go_wp2_with (first | ((with_reducible show Jl 31);refine Jm 31 (he1) agg_E hn ?_) | ((with_reducible show Jl 31);refine Jm 31 (he1'.ext HX1.out) agg_E hn' ?_) | ((with_reducible show Jl 31);refine Jm 31 (hb1) agg_E hn ?_) | ((with_reducible show Jl 31);refine Jm 31 (hb2) agg_E hn' ?_) | ((with_reducible show Js 31);refine wpList_store_new rfl 31 _ _ rfl rfl (by first | rfl | simp) rfl agg_E (hn) rfl (he2.one) ?_) | ((with_reducible show Js 31);refine wpList_store_new rfl 31 _ _ rfl rfl (by first | rfl | simp) rfl agg_E (hn') rfl (he2'.one) ?_) | ((with_reducible show Jw (Op.call { callee:=.value (.tmp _),args:=_,argTypes:=_ }));refine wpList_call_fv rfl _ _ _ rfl rfl eg rfl HC ?_;intro w1 hx1))
     go_roundw
     case rel =>
      refine ⟨k+1,by omega,by go_num,?_,HB.out.trans hx1⟩
      rw [take_snoc l k hlt,take_snoc r k hlt',allEq2_snoc _ _ _ _ _ (by simp;omega),HNO.out,Hpk.out];rfl
     case measure=>simp [intOf];omega
    | false =>
     rw [hpk] at HC
     have Hpk:=Jh hpk
     clear hpk
     go_wp2_with (first | ((with_reducible show Jl 31);refine Jm 31 (he1) agg_E hn ?_) | ((with_reducible show Jl 31);refine Jm 31 (he1'.ext HX1.out) agg_E hn' ?_) | ((with_reducible show Jl 31);refine Jm 31 (hb1) agg_E hn ?_) | ((with_reducible show Jl 31);refine Jm 31 (hb2) agg_E hn' ?_) | ((with_reducible show Js 31);refine wpList_store_new rfl 31 _ _ rfl rfl (by first | rfl | simp) rfl agg_E (hn) rfl (he2.one) ?_) | ((with_reducible show Js 31);refine wpList_store_new rfl 31 _ _ rfl rfl (by first | rfl | simp) rfl agg_E (hn') rfl (he2'.one) ?_) | ((with_reducible show Jw (Op.call { callee:=.value (.tmp _),args:=_,argTypes:=_ }));refine wpList_call_fv rfl _ _ _ rfl rfl eg rfl HC ?_;intro w1 hx1))
     go_ret
     exact ⟨by rw [allEq2_false p l r k hlt hlt' Hpk.out];rfl,HB.out.trans hx1⟩
   ·go_wp2_with fail
    go_ret
    obtain rfl:k=l.length:=by omega
    refine ⟨?_,hB⟩
    have:=HNO.out
    rw [List.take_length,HL.out,List.take_length] at this
    rw [this];rfl
 ·have hneq:(((l.length:Nat):Int) != ((r.length:Nat):Int))=true:=by rw [bne_iff_ne];omega
  have HL:=Jh hlen
  clear hlen
  go_enter Tryz.func91,Tryz.ntmps91
  go_wp2_with fail
  go_ret
  exact ⟨by rw [allEq2_length p l r HL.out];rfl,Below.refl _ _⟩
theorem EqualFunc_T (g:FuncId) (p:T->T->Bool) (l r:List T) (s s':Value) (w:World) (h:Sl 6 (TAt w) s l) (h':Sl 6 (TAt w) s' r) (eg:Leads Tryz.prog g)
  (hp:∀ wr,Ext w wr->∀ k (hk:k<l.length) (hk':k<r.length) cs cs',VT wr cs l[k]->VT wr cs' r[k]->Calls Tryz.prog g ([.agg cs.toArray,.agg cs'.toArray].toArray++#[]) wr fun r' w'=>r'=.returned (.bool (p l[k] r[k]))/\Ext wr w') :
  Calls Tryz.prog 48 #[s,s',.func (.func g) #[] #[]] w fun r' w'=>r'=.returned (.bool (allEq2 p l r))/\Ext w w':=by
 have HP:=Jh hp
 clear hp
 obtain ⟨a,b,o,cap,hs,hc1,hc2,ha,hr⟩:=h.open
 obtain ⟨a',b',o',cap',hs',hc1',hc2',ha',hr'⟩:=h'.open
 subst hs
 subst hs'
 by_cases hlen:l.length=r.length
 ·have HL:=Jh hlen
  have hneq:(((l.length:Nat):Int) != ((r.length:Nat):Int))=false:=by simp [hlen]
  clear hlen
  go_enter Tryz.func48,Tryz.ntmps48
  go_wp2_with fail
  clear hneq
  go_loopw [7,8,9,17] (fun _ _ _ i wr=>∃ k:Nat,k<=l.length/\i=.int .i64 k/\allEq2 p (l.take k) (r.take k)=true/\Ext w wr) (fun _ _ _ i _=>l.length-(intOf i).toNat)
  case atStart=>exact ⟨0,Nat.zero_le _,rfl,by simp [allEq2],Below.refl _ _⟩
  case round =>
   obtain ⟨k,hk,rfl,hno,hB⟩:=hrel
   have HNO:=Jh hno
   clear hno
   by_cases hlt:k<l.length
   ·have hlt':k<r.length:=by have:=HL.out;omega
    obtain ⟨cs,he1,hn,he2⟩:=VT.get (hr.mono fun x _ b o h=>TAt.ext' hB h) hlt
    obtain ⟨cs',he1',hn',he2'⟩:=VT.get (hr'.mono fun x _ b o h=>TAt.ext' hB h) hlt'
    obtain rfl:=ha (by omega)
    obtain rfl:=ha' (by omega)
    have HX1:=Jh (ext_alloc wr (.cells cs.toArray 39))
    have HX2:=Jh (HX1.out.trans (ext_alloc _ (.cells cs'.toArray 39)))
    have HC:=(HP.out _ (hB.trans HX2.out) k hlt hlt' cs cs' (he2.ext HX2.out) (he2'.ext HX2.out))
    have hb1:=(Has.alloc wr cs 39).ext (ext_alloc _ (.cells cs'.toArray 39))
    have hb2:=Has.alloc (wr.alloc (.cells cs.toArray 39)) cs' 39
    rw [World.size_alloc] at hb2
    have HB:=Jh (hB.trans HX2.out)
    cases hpk:p l[k] r[k] with
    | true =>
     rw [hpk] at HC
     have Hpk:=Jh hpk
     clear hpk
     go_wp2_with (first | ((with_reducible show Jl 39);refine Jm 39 (he1) agg_T hn ?_) | ((with_reducible show Jl 39);refine Jm 39 (he1'.ext HX1.out) agg_T hn' ?_) | ((with_reducible show Jl 39);refine Jm 39 (hb1) agg_T hn ?_) | ((with_reducible show Jl 39);refine Jm 39 (hb2) agg_T hn' ?_) | ((with_reducible show Js 39);refine wpList_store_new rfl 39 _ _ rfl rfl (by first | rfl | simp) rfl agg_T (hn) rfl (he2.one) ?_) | ((with_reducible show Js 39);refine wpList_store_new rfl 39 _ _ rfl rfl (by first | rfl | simp) rfl agg_T (hn') rfl (he2'.one) ?_) | ((with_reducible show Jw (Op.call { callee:=.value (.tmp _),args:=_,argTypes:=_ }));refine wpList_call_fv rfl _ _ _ rfl rfl eg rfl HC ?_;intro w1 hx1))
     go_roundw
     case rel =>
      refine ⟨k+1,by omega,by go_num,?_,HB.out.trans hx1⟩
      rw [take_snoc l k hlt,take_snoc r k hlt',allEq2_snoc _ _ _ _ _ (by simp;omega),HNO.out,Hpk.out];rfl
     case measure=>simp [intOf];omega
    | false =>
     rw [hpk] at HC
     have Hpk:=Jh hpk
     clear hpk
     go_wp2_with (first | ((with_reducible show Jl 39);refine Jm 39 (he1) agg_T hn ?_) | ((with_reducible show Jl 39);refine Jm 39 (he1'.ext HX1.out) agg_T hn' ?_) | ((with_reducible show Jl 39);refine Jm 39 (hb1) agg_T hn ?_) | ((with_reducible show Jl 39);refine Jm 39 (hb2) agg_T hn' ?_) | ((with_reducible show Js 39);refine wpList_store_new rfl 39 _ _ rfl rfl (by first | rfl | simp) rfl agg_T (hn) rfl (he2.one) ?_) | ((with_reducible show Js 39);refine wpList_store_new rfl 39 _ _ rfl rfl (by first | rfl | simp) rfl agg_T (hn') rfl (he2'.one) ?_) | ((with_reducible show Jw (Op.call { callee:=.value (.tmp _),args:=_,argTypes:=_ }));refine wpList_call_fv rfl _ _ _ rfl rfl eg rfl HC ?_;intro w1 hx1))
     go_ret
     exact ⟨by rw [allEq2_false p l r k hlt hlt' Hpk.out];rfl,HB.out.trans hx1⟩
   ·go_wp2_with fail
    go_ret
    obtain rfl:k=l.length:=by omega
    refine ⟨?_,hB⟩
    have:=HNO.out
    rw [List.take_length,HL.out,List.take_length] at this
    rw [this];rfl
 ·have hneq:(((l.length:Nat):Int) != ((r.length:Nat):Int))=true:=by rw [bne_iff_ne];omega
  have HL:=Jh hlen
  clear hlen
  go_enter Tryz.func48,Tryz.ntmps48
  go_wp2_with fail
  go_ret
  exact ⟨by rw [allEq2_length p l r HL.out];rfl,Below.refl _ _⟩
theorem EqualFunc_Proc (g:FuncId) (p:Proc->Proc->Bool) (l r:List Proc) (s s':Value) (w:World) (h:Sl 2 (ProcAt w) s l) (h':Sl 2 (ProcAt w) s' r) (eg:Leads Tryz.prog g)
  (hp:∀ wr,Ext w wr->∀ k (hk:k<l.length) (hk':k<r.length) cs cs',VProc wr cs l[k]->VProc wr cs' r[k]->Calls Tryz.prog g ([.agg cs.toArray,.agg cs'.toArray].toArray++#[]) wr fun r' w'=>r'=.returned (.bool (p l[k] r[k]))/\Ext wr w') :
  Calls Tryz.prog 53 #[s,s',.func (.func g) #[] #[]] w fun r' w'=>r'=.returned (.bool (allEq2 p l r))/\Ext w w':=by
 have HP:=Jh hp
 clear hp
 obtain ⟨a,b,o,cap,hs,hc1,hc2,ha,hr⟩:=h.open
 obtain ⟨a',b',o',cap',hs',hc1',hc2',ha',hr'⟩:=h'.open
 subst hs
 subst hs'
 by_cases hlen:l.length=r.length
 ·have HL:=Jh hlen
  have hneq:(((l.length:Nat):Int) != ((r.length:Nat):Int))=false:=by simp [hlen]
  clear hlen
  go_enter Tryz.func53,Tryz.ntmps53
  go_wp2_with fail
  clear hneq
  go_loopw [7,8,9,17] (fun _ _ _ i wr=>∃ k:Nat,k<=l.length/\i=.int .i64 k/\allEq2 p (l.take k) (r.take k)=true/\Ext w wr) (fun _ _ _ i _=>l.length-(intOf i).toNat)
  case atStart=>exact ⟨0,Nat.zero_le _,rfl,by simp [allEq2],Below.refl _ _⟩
  case round =>
   obtain ⟨k,hk,rfl,hno,hB⟩:=hrel
   have HNO:=Jh hno
   clear hno
   by_cases hlt:k<l.length
   ·have hlt':k<r.length:=by have:=HL.out;omega
    obtain ⟨cs,he1,hn,he2⟩:=VProc.get (hr.mono fun x _ b o h=>ProcAt.ext' hB h) hlt
    obtain ⟨cs',he1',hn',he2'⟩:=VProc.get (hr'.mono fun x _ b o h=>ProcAt.ext' hB h) hlt'
    obtain rfl:=ha (by omega)
    obtain rfl:=ha' (by omega)
    have HX1:=Jh (ext_alloc wr (.cells cs.toArray 36))
    have HX2:=Jh (HX1.out.trans (ext_alloc _ (.cells cs'.toArray 36)))
    have HC:=(HP.out _ (hB.trans HX2.out) k hlt hlt' cs cs' (he2.ext HX2.out) (he2'.ext HX2.out))
    have hb1:=(Has.alloc wr cs 36).ext (ext_alloc _ (.cells cs'.toArray 36))
    have hb2:=Has.alloc (wr.alloc (.cells cs.toArray 36)) cs' 36
    rw [World.size_alloc] at hb2
    have HB:=Jh (hB.trans HX2.out)
    cases hpk:p l[k] r[k] with
    | true =>
     rw [hpk] at HC
     have Hpk:=Jh hpk
     clear hpk
     go_wp2_with (first | ((with_reducible show Jl 36);refine Jm 36 (he1) agg_Proc hn ?_) | ((with_reducible show Jl 36);refine Jm 36 (he1'.ext HX1.out) agg_Proc hn' ?_) | ((with_reducible show Jl 36);refine Jm 36 (hb1) agg_Proc hn ?_) | ((with_reducible show Jl 36);refine Jm 36 (hb2) agg_Proc hn' ?_) | ((with_reducible show Js 36);refine wpList_store_new rfl 36 _ _ rfl rfl (by first | rfl | simp) rfl agg_Proc (hn) rfl (he2.one) ?_) | ((with_reducible show Js 36);refine wpList_store_new rfl 36 _ _ rfl rfl (by first | rfl | simp) rfl agg_Proc (hn') rfl (he2'.one) ?_) | ((with_reducible show Jw (Op.call { callee:=.value (.tmp _),args:=_,argTypes:=_ }));refine wpList_call_fv rfl _ _ _ rfl rfl eg rfl HC ?_;intro w1 hx1))
     go_roundw
     case rel =>
      refine ⟨k+1,by omega,by go_num,?_,HB.out.trans hx1⟩
      rw [take_snoc l k hlt,take_snoc r k hlt',allEq2_snoc _ _ _ _ _ (by simp;omega),HNO.out,Hpk.out];rfl
     case measure=>simp [intOf];omega
    | false =>
     rw [hpk] at HC
     have Hpk:=Jh hpk
     clear hpk
     go_wp2_with (first | ((with_reducible show Jl 36);refine Jm 36 (he1) agg_Proc hn ?_) | ((with_reducible show Jl 36);refine Jm 36 (he1'.ext HX1.out) agg_Proc hn' ?_) | ((with_reducible show Jl 36);refine Jm 36 (hb1) agg_Proc hn ?_) | ((with_reducible show Jl 36);refine Jm 36 (hb2) agg_Proc hn' ?_) | ((with_reducible show Js 36);refine wpList_store_new rfl 36 _ _ rfl rfl (by first | rfl | simp) rfl agg_Proc (hn) rfl (he2.one) ?_) | ((with_reducible show Js 36);refine wpList_store_new rfl 36 _ _ rfl rfl (by first | rfl | simp) rfl agg_Proc (hn') rfl (he2'.one) ?_) | ((with_reducible show Jw (Op.call { callee:=.value (.tmp _),args:=_,argTypes:=_ }));refine wpList_call_fv rfl _ _ _ rfl rfl eg rfl HC ?_;intro w1 hx1))
     go_ret
     exact ⟨by rw [allEq2_false p l r k hlt hlt' Hpk.out];rfl,HB.out.trans hx1⟩
   ·go_wp2_with fail
    go_ret
    obtain rfl:k=l.length:=by omega
    refine ⟨?_,hB⟩
    have:=HNO.out
    rw [List.take_length,HL.out,List.take_length] at this
    rw [this];rfl
 ·have hneq:(((l.length:Nat):Int) != ((r.length:Nat):Int))=true:=by rw [bne_iff_ne];omega
  have HL:=Jh hlen
  clear hlen
  go_enter Tryz.func53,Tryz.ntmps53
  go_wp2_with fail
  go_ret
  exact ⟨by rw [allEq2_length p l r HL.out];rfl,Below.refl _ _⟩
theorem EqualFunc_Check (g:FuncId) (p:Chk->Chk->Bool) (l r:List Chk) (s s':Value) (w:World) (h:Sl 9 (ChkAt w) s l) (h':Sl 9 (ChkAt w) s' r) (eg:Leads Tryz.prog g)
  (hp:∀ wr,Ext w wr->∀ k (hk:k<l.length) (hk':k<r.length) cs cs',VCheck wr cs l[k]->VCheck wr cs' r[k]->Calls Tryz.prog g ([.agg cs.toArray,.agg cs'.toArray].toArray++#[]) wr fun r' w'=>r'=.returned (.bool (p l[k] r[k]))/\Ext wr w') :
  Calls Tryz.prog 54 #[s,s',.func (.func g) #[] #[]] w fun r' w'=>r'=.returned (.bool (allEq2 p l r))/\Ext w w':=by
 have HP:=Jh hp
 clear hp
 obtain ⟨a,b,o,cap,hs,hc1,hc2,ha,hr⟩:=h.open
 obtain ⟨a',b',o',cap',hs',hc1',hc2',ha',hr'⟩:=h'.open
 subst hs
 subst hs'
 by_cases hlen:l.length=r.length
 ·have HL:=Jh hlen
  have hneq:(((l.length:Nat):Int) != ((r.length:Nat):Int))=false:=by simp [hlen]
  clear hlen
  go_enter Tryz.func54,Tryz.ntmps54
  go_wp2_with fail
  clear hneq
  go_loopw [7,8,9,17] (fun _ _ _ i wr=>∃ k:Nat,k<=l.length/\i=.int .i64 k/\allEq2 p (l.take k) (r.take k)=true/\Ext w wr) (fun _ _ _ i _=>l.length-(intOf i).toNat)
  case atStart=>exact ⟨0,Nat.zero_le _,rfl,by simp [allEq2],Below.refl _ _⟩
  case round =>
   obtain ⟨k,hk,rfl,hno,hB⟩:=hrel
   have HNO:=Jh hno
   clear hno
   by_cases hlt:k<l.length
   ·have hlt':k<r.length:=by have:=HL.out;omega
    obtain ⟨cs,he1,hn,he2⟩:=VCheck.get (hr.mono fun x _ b o h=>ChkAt.ext' hB h) hlt
    obtain ⟨cs',he1',hn',he2'⟩:=VCheck.get (hr'.mono fun x _ b o h=>ChkAt.ext' hB h) hlt'
    obtain rfl:=ha (by omega)
    obtain rfl:=ha' (by omega)
    have HX1:=Jh (ext_alloc wr (.cells cs.toArray 99))
    have HX2:=Jh (HX1.out.trans (ext_alloc _ (.cells cs'.toArray 99)))
    have HC:=(HP.out _ (hB.trans HX2.out) k hlt hlt' cs cs' (he2.ext HX2.out) (he2'.ext HX2.out))
    have hb1:=(Has.alloc wr cs 99).ext (ext_alloc _ (.cells cs'.toArray 99))
    have hb2:=Has.alloc (wr.alloc (.cells cs.toArray 99)) cs' 99
    rw [World.size_alloc] at hb2
    have HB:=Jh (hB.trans HX2.out)
    cases hpk:p l[k] r[k] with
    | true =>
     rw [hpk] at HC
     have Hpk:=Jh hpk
     clear hpk
     go_wp2_with (first | ((with_reducible show Jl 99);refine Jm 99 (he1) agg_Check hn ?_) | ((with_reducible show Jl 99);refine Jm 99 (he1'.ext HX1.out) agg_Check hn' ?_) | ((with_reducible show Jl 99);refine Jm 99 (hb1) agg_Check hn ?_) | ((with_reducible show Jl 99);refine Jm 99 (hb2) agg_Check hn' ?_) | ((with_reducible show Js 99);refine wpList_store_new rfl 99 _ _ rfl rfl (by first | rfl | simp) rfl agg_Check (hn) rfl (he2.one) ?_) | ((with_reducible show Js 99);refine wpList_store_new rfl 99 _ _ rfl rfl (by first | rfl | simp) rfl agg_Check (hn') rfl (he2'.one) ?_) | ((with_reducible show Jw (Op.call { callee:=.value (.tmp _),args:=_,argTypes:=_ }));refine wpList_call_fv rfl _ _ _ rfl rfl eg rfl HC ?_;intro w1 hx1))
     go_roundw
     case rel =>
      refine ⟨k+1,by omega,by go_num,?_,HB.out.trans hx1⟩
      rw [take_snoc l k hlt,take_snoc r k hlt',allEq2_snoc _ _ _ _ _ (by simp;omega),HNO.out,Hpk.out];rfl
     case measure=>simp [intOf];omega
    | false =>
     rw [hpk] at HC
     have Hpk:=Jh hpk
     clear hpk
     go_wp2_with (first | ((with_reducible show Jl 99);refine Jm 99 (he1) agg_Check hn ?_) | ((with_reducible show Jl 99);refine Jm 99 (he1'.ext HX1.out) agg_Check hn' ?_) | ((with_reducible show Jl 99);refine Jm 99 (hb1) agg_Check hn ?_) | ((with_reducible show Jl 99);refine Jm 99 (hb2) agg_Check hn' ?_) | ((with_reducible show Js 99);refine wpList_store_new rfl 99 _ _ rfl rfl (by first | rfl | simp) rfl agg_Check (hn) rfl (he2.one) ?_) | ((with_reducible show Js 99);refine wpList_store_new rfl 99 _ _ rfl rfl (by first | rfl | simp) rfl agg_Check (hn') rfl (he2'.one) ?_) | ((with_reducible show Jw (Op.call { callee:=.value (.tmp _),args:=_,argTypes:=_ }));refine wpList_call_fv rfl _ _ _ rfl rfl eg rfl HC ?_;intro w1 hx1))
     go_ret
     exact ⟨by rw [allEq2_false p l r k hlt hlt' Hpk.out];rfl,HB.out.trans hx1⟩
   ·go_wp2_with fail
    go_ret
    obtain rfl:k=l.length:=by omega
    refine ⟨?_,hB⟩
    have:=HNO.out
    rw [List.take_length,HL.out,List.take_length] at this
    rw [this];rfl
 ·have hneq:(((l.length:Nat):Int) != ((r.length:Nat):Int))=true:=by rw [bne_iff_ne];omega
  have HL:=Jh hlen
  clear hlen
  go_enter Tryz.func54,Tryz.ntmps54
  go_wp2_with fail
  go_ret
  exact ⟨by rw [allEq2_length p l r HL.out];rfl,Below.refl _ _⟩
/-! ### two expressions are one -/
def eqE:E->E->Bool
 | ⟨op,w,v,sig,hi,lo,n,l⟩,e=>decide (op=e.op)&&decide (w=e.w)&&decide (v=e.v)&&decide (sig=e.sig)&&decide (hi=e.hi)&&decide (lo=e.lo)&&decide (n=e.n)&&rows l e.l
where rows:List E->List E->Bool
 | [],[]=>true
 | x::l,y::r=>eqE x y&&rows l r
 | _,_=>false
theorem eqE.rows_eq (l r:List E):eqE.rows l r=allEq2 eqE l r:=by
 induction l generalizing r with
 | nil=>cases r<;>rfl
 | cons x l ih=>cases r with
  | nil=>rfl
  | cons y r=>simp [eqE.rows,allEq2,ih]
theorem eqE_eq (a b:E):eqE a b=(decide (a.op=b.op)&&decide (a.w=b.w)&&decide (a.v=b.v)&&decide (a.sig=b.sig)&&decide (a.hi=b.hi)&&decide (a.lo=b.lo)&&decide (a.n=b.n)&&allEq2 eqE a.l b.l):=by
 cases a;simp [eqE,eqE.rows_eq]
theorem allEq2_iff {α:Type} (p:α->α->Bool) (l r:List α) (h:∀ x∈l,∀ y,p x y=true↔x=y):allEq2 p l r=true↔l=r:=by
 induction l generalizing r with
 | nil=>cases r<;>simp [allEq2]
 | cons x l ih=>cases r with
  | nil=>simp [allEq2]
  | cons y r=>simp [allEq2,h x (by simp),ih r (fun x hx=>h x (by simp [hx]))]
theorem eqE_iff (a:E):∀ b,eqE a b=true↔a=b:=by
 induction a using E.ind with
 | h a ih =>
  intro b
  rw [eqE_eq]
  simp only [Bool.and_eq_true,decide_eq_true_eq,allEq2_iff eqE a.l b.l (fun x hx y=>ih x hx y)]
  cases a;cases b;simp [and_assoc]
theorem leads_SameE:Leads Tryz.prog 51:=leads_of Tryz.func51 (by kernel_rfl) rfl
theorem SameE_calls (x:E):∀ (y:E) (cs cs':List Value) (w:World) (_:VE w cs x) (_:VE w cs' y),
  Calls Tryz.prog 51 #[.agg cs.toArray,.agg cs'.toArray] w fun r w'=>r=.returned (.bool (eqE x y))/\Ext w w':=by
 induction x using E.ind with
 | h x ih =>
 intro y cs cs' w h h'
 have IH:=Jh ih
 clear ih
 obtain ⟨s,rfl,hs⟩:=h
 obtain ⟨s',rfl,hs'⟩:=h'
 have HE:=Jh (eqE_eq x y)
 have hX1:=ext_alloc w (.cells (x.cells s).toArray 31)
 have hX2:=ext_alloc (w.alloc (.cells (x.cells s).toArray 31)) (.cells (y.cells s').toArray 31)
 have hb1:=(Has.alloc w (x.cells s) 31).ext hX2
 have hb2:=Has.alloc (w.alloc (.cells (x.cells s).toArray 31)) (y.cells s') 31
 rw [World.size_alloc] at hb2
 have hX:=hX1.trans hX2
 have heq:=EqualFunc_E 51 eqE x.l y.l s s' _ (hs.ext hX) (hs'.ext hX) leads_SameE
  (fun wr hx k hk hk' cs cs' h h'=>IH.out _ (List.getElem_mem hk) _ cs cs' wr h h')
 clear hX1 hX2
 go_enter Tryz.func51,Tryz.ntmps51
 go_wp2_with fail
 generalize (w.alloc _).alloc _=w0 at *
 have HQ:=Jh heq
 clear heq
 obtain ⟨op,wd,v,sig,hi,lo,n,l⟩:=x
 obtain ⟨op',wd',v',sig',hi',lo',n',l'⟩:=y
 have a0:=hb1 0 _ rfl
 have a1:=hb1 1 _ rfl
 have a2:=hb1 2 _ rfl
 have a3:=hb1 3 _ rfl
 have a4:=hb1 4 _ rfl
 have a5:=hb1 5 _ rfl
 have a6:=hb1 6 _ rfl
 have a7:=hb1 7 _ rfl
 have c0:=hb2 0 _ rfl
 have c1:=hb2 1 _ rfl
 have c2:=hb2 2 _ rfl
 have c3:=hb2 3 _ rfl
 have c4:=hb2 4 _ rfl
 have c5:=hb2 5 _ rfl
 have c6:=hb2 6 _ rfl
 have c7:=hb2 7 _ rfl
 go_wp2_with (first | (go_at_call 91;refine HQ.out.mono ?_;rintro r w1 ⟨rfl,hx1⟩))
 all_goals go_ret
 all_goals first
  | exact ⟨by rw [HE.out];simp only [decide_true,Bool.true_and,Bool.and_self, *];rfl,hX.trans (by first | exact hx1 | exact Below.refl _ _)⟩
  | exact ⟨ret_bool (by rw [HE.out];simp_all),hX⟩
 all_goals trace_state
end Go.Proofs.YtpngepnfinbaoaaGreat
