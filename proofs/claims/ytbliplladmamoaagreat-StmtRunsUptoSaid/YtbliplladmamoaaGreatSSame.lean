/- Laws and walks that a claim of this seat leans on: Same. -/
import Derived.Test.YtbliplladmamoaaGreatS02
import Derived.Test.YtbliplladmamoaaGreatS00
set_option maxRecDepth 100000
set_option maxHeartbeats 8000000
set_option linter.all false
namespace Go.Proofs.YtbliplladmamoaaGreat
open Go.RowKit
def Bg {α:Type} (p:α->α->Bool):List α->List α->Bool
 | [],[]=>true
 | x::l,y::r=>p x y&&Bg p l r
 | _,_=>false
theorem Ib {α:Type} (p:α->α->Bool) (l r:List α) (x y:α) (h:l.length=r.length):Bg p (l++[x]) (r++[y])=(Bg p l r&&p x y):=by
 induction l generalizing r with
 | nil=>cases r with
  | nil=>simp [Bg]
  | cons _ _=>simp at h
 | cons a l ih=>cases r with
  | nil=>simp at h
  | cons b r=>simp [Bg,ih r (by simpa using h),Bool.and_assoc]
theorem G5 {α:Type} (p:α->α->Bool) (l r:List α) (h:¬ l.length=r.length):Bg p l r=false:=by
 induction l generalizing r with
 | nil=>cases r with
  | nil=>simp at h
  | cons _ _=>rfl
 | cons a l ih=>cases r with
  | nil=>rfl
  | cons b r=>simp [Bg,ih r (by simpa using h)]
theorem Hl {α:Type} (p:α->α->Bool) (l r:List α) (k:Nat) (h:k<l.length) (h':k<r.length) (hp:p l[k] r[k]=false):Bg p l r=false:=by
 induction l generalizing r k with
 | nil=>simp at h
 | cons a l ih=>cases r with
  | nil=>rfl
  | cons b r =>
   cases k with
   | zero=>simp at hp;simp [Bg,hp]
   | succ k=>simp at hp;simp [Bg,ih r k (by simpa using h) (by simpa using h') hp]
theorem Pg (g:FuncId) (p:E->E->Bool) (l r:List E) (s s':Value) (w:World) (h:Sl 8 (EAt w) s l) (h':Sl 8 (EAt w) s' r) (eg:Bj Tryz.prog g)
  (hp:∀ wr,Ext w wr->∀ k (hk:k<l.length) (hk':k<r.length) cs u,VE wr cs l[k]->VE wr u r[k]->Calls Tryz.prog g ([.agg cs.toArray,.agg u.toArray].toArray++#[]) wr fun r' w'=>r'=.returned (.bool (p l[k] r[k]))/\Ext wr w') :
  Calls Tryz.prog 99 #[s,s',.func (.func g) #[] #[]] w fun r' w'=>r'=.returned (.bool (Bg p l r))/\Ext w w':=by
 have HP:=Jh hp
 clear hp
 obtain ⟨a,b,o,cap,hs,ah,a0,ha,hr⟩:=h.open
 obtain ⟨a',b',o',ax,aw,ay,az,au,av⟩:=h'.open
 subst hs
 subst aw
 by_cases j:l.length=r.length
 ·have HL:=Jh j
  have ai:(((l.length:Nat):Int) != ((r.length:Nat):Int))=false:=by simp [j]
  clear j
  go_enter Tryz.func99,Tryz.ntmps99
  go_wp2_with fail
  clear ai
  go_loopw [7,8,9,17] (fun _ _ _ i wr=>∃ k:Nat,k<=l.length/\i=.int .i64 k/\Bg p (l.take k) (r.take k)=true/\Ext w wr) (fun _ _ _ i _=>l.length-(intOf i).toNat)
  case atStart=>exact ⟨0,Nat.zero_le _,rfl,by simp [Bg],Below.refl _ _⟩
  case round =>
   obtain ⟨k,hk,rfl,ar,hB⟩:=hrel
   have ao:=Jh ar
   clear ar
   by_cases af:k<l.length
   ·have aa:k<r.length:=by have:=HL.out;omega
    obtain ⟨cs,aq,hn,am⟩:=VE.get (hr.mono fun x _ b o h=>EAt.ext' hB h) af
    obtain ⟨u,ag,ab,ac⟩:=VE.get (av.mono fun x _ b o h=>EAt.ext' hB h) aa
    obtain rfl:=ha (by omega)
    obtain rfl:=au (by omega)
    have aj:=Jh (Ab wr (.cells cs.toArray 40))
    have ae:=Jh (aj.out.trans (Ab _ (.cells u.toArray 40)))
    have HC:=(HP.out _ (hB.trans ae.out) k af aa cs u (am.ext ae.out) (ac.ext ae.out))
    have ap:=(Has.alloc wr cs 40).ext (Ab _ (.cells u.toArray 40))
    have al:=Has.alloc (wr.alloc (.cells cs.toArray 40)) u 40
    rw [World.size_alloc] at al
    have HB:=Jh (hB.trans ae.out)
    cases hpk:p l[k] r[k] with
    | true =>
     rw [hpk] at HC
     have ak:=Jh hpk
     clear hpk
     go_wp2_with (first | ((with_reducible show Jl 40);refine Aa rfl 40 _ rfl rfl (aq) Ah hn ?_) | ((with_reducible show Jl 40);refine Aa rfl 40 _ rfl rfl (ag.ext aj.out) Ah ab ?_) | ((with_reducible show Jl 40);refine Aa rfl 40 _ rfl rfl (ap) Ah hn ?_) | ((with_reducible show Jl 40);refine Aa rfl 40 _ rfl rfl (al) Ah ab ?_) | ((with_reducible show Js 40);refine Ad rfl 40 _ _ rfl rfl (by first | rfl | simp) rfl Ah (hn) rfl (am.one) ?_) | ((with_reducible show Js 40);refine Ad rfl 40 _ _ rfl rfl (by first | rfl | simp) rfl Ah (ab) rfl (ac.one) ?_) | ((with_reducible show Jw (Op.call { callee:=.value (.tmp _),args:=_,argTypes:=_ }));refine As rfl _ _ _ rfl rfl eg rfl HC ?_;intro w1 an))
     go_roundw
     case rel =>
      refine ⟨k+1,by omega,by go_num,?_,HB.out.trans an⟩
      rw [Ba l k af,Ba r k aa,Ib _ _ _ _ _ (by simp;omega),ao.out,ak.out];rfl
     case measure=>simp [intOf];omega
    | false =>
     rw [hpk] at HC
     have ak:=Jh hpk
     clear hpk
     go_wp2_with (first | ((with_reducible show Jl 40);refine Aa rfl 40 _ rfl rfl (aq) Ah hn ?_) | ((with_reducible show Jl 40);refine Aa rfl 40 _ rfl rfl (ag.ext aj.out) Ah ab ?_) | ((with_reducible show Jl 40);refine Aa rfl 40 _ rfl rfl (ap) Ah hn ?_) | ((with_reducible show Jl 40);refine Aa rfl 40 _ rfl rfl (al) Ah ab ?_) | ((with_reducible show Js 40);refine Ad rfl 40 _ _ rfl rfl (by first | rfl | simp) rfl Ah (hn) rfl (am.one) ?_) | ((with_reducible show Js 40);refine Ad rfl 40 _ _ rfl rfl (by first | rfl | simp) rfl Ah (ab) rfl (ac.one) ?_) | ((with_reducible show Jw (Op.call { callee:=.value (.tmp _),args:=_,argTypes:=_ }));refine As rfl _ _ _ rfl rfl eg rfl HC ?_;intro w1 an))
     go_ret
     exact ⟨by rw [Hl p l r k af aa ak.out];rfl,HB.out.trans an⟩
   ·go_wp2_with fail
    go_ret
    obtain rfl:k=l.length:=by omega
    refine ⟨?_,hB⟩
    have:=ao.out
    rw [List.take_length,HL.out,List.take_length] at this
    rw [this];rfl
 ·have ai:(((l.length:Nat):Int) != ((r.length:Nat):Int))=true:=by rw [bne_iff_ne];omega
  have HL:=Jh j
  clear j
  go_enter Tryz.func99,Tryz.ntmps99
  go_wp2_with fail
  go_ret
  exact ⟨by rw [G5 p l r HL.out];rfl,Below.refl _ _⟩
theorem Ph (g:FuncId) (p:T->T->Bool) (l r:List T) (s s':Value) (w:World) (h:Sl 6 (TAt w) s l) (h':Sl 6 (TAt w) s' r) (eg:Bj Tryz.prog g)
  (hp:∀ wr,Ext w wr->∀ k (hk:k<l.length) (hk':k<r.length) cs u,VT wr cs l[k]->VT wr u r[k]->Calls Tryz.prog g ([.agg cs.toArray,.agg u.toArray].toArray++#[]) wr fun r' w'=>r'=.returned (.bool (p l[k] r[k]))/\Ext wr w') :
  Calls Tryz.prog 62 #[s,s',.func (.func g) #[] #[]] w fun r' w'=>r'=.returned (.bool (Bg p l r))/\Ext w w':=by
 have HP:=Jh hp
 clear hp
 obtain ⟨a,b,o,cap,hs,ah,a0,ha,hr⟩:=h.open
 obtain ⟨a',b',o',ax,aw,ay,az,au,av⟩:=h'.open
 subst hs
 subst aw
 by_cases j:l.length=r.length
 ·have HL:=Jh j
  have ai:(((l.length:Nat):Int) != ((r.length:Nat):Int))=false:=by simp [j]
  clear j
  go_enter Tryz.func62,Tryz.ntmps62
  go_wp2_with fail
  clear ai
  go_loopw [7,8,9,17] (fun _ _ _ i wr=>∃ k:Nat,k<=l.length/\i=.int .i64 k/\Bg p (l.take k) (r.take k)=true/\Ext w wr) (fun _ _ _ i _=>l.length-(intOf i).toNat)
  case atStart=>exact ⟨0,Nat.zero_le _,rfl,by simp [Bg],Below.refl _ _⟩
  case round =>
   obtain ⟨k,hk,rfl,ar,hB⟩:=hrel
   have ao:=Jh ar
   clear ar
   by_cases af:k<l.length
   ·have aa:k<r.length:=by have:=HL.out;omega
    obtain ⟨cs,aq,hn,am⟩:=VT.get (hr.mono fun x _ b o h=>TAt.ext' hB h) af
    obtain ⟨u,ag,ab,ac⟩:=VT.get (av.mono fun x _ b o h=>TAt.ext' hB h) aa
    obtain rfl:=ha (by omega)
    obtain rfl:=au (by omega)
    have aj:=Jh (Ab wr (.cells cs.toArray 44))
    have ae:=Jh (aj.out.trans (Ab _ (.cells u.toArray 44)))
    have HC:=(HP.out _ (hB.trans ae.out) k af aa cs u (am.ext ae.out) (ac.ext ae.out))
    have ap:=(Has.alloc wr cs 44).ext (Ab _ (.cells u.toArray 44))
    have al:=Has.alloc (wr.alloc (.cells cs.toArray 44)) u 44
    rw [World.size_alloc] at al
    have HB:=Jh (hB.trans ae.out)
    cases hpk:p l[k] r[k] with
    | true =>
     rw [hpk] at HC
     have ak:=Jh hpk
     clear hpk
     go_wp2_with (first | ((with_reducible show Jl 44);refine Aa rfl 44 _ rfl rfl (aq) Aw hn ?_) | ((with_reducible show Jl 44);refine Aa rfl 44 _ rfl rfl (ag.ext aj.out) Aw ab ?_) | ((with_reducible show Jl 44);refine Aa rfl 44 _ rfl rfl (ap) Aw hn ?_) | ((with_reducible show Jl 44);refine Aa rfl 44 _ rfl rfl (al) Aw ab ?_) | ((with_reducible show Js 44);refine Ad rfl 44 _ _ rfl rfl (by first | rfl | simp) rfl Aw (hn) rfl (am.one) ?_) | ((with_reducible show Js 44);refine Ad rfl 44 _ _ rfl rfl (by first | rfl | simp) rfl Aw (ab) rfl (ac.one) ?_) | ((with_reducible show Jw (Op.call { callee:=.value (.tmp _),args:=_,argTypes:=_ }));refine As rfl _ _ _ rfl rfl eg rfl HC ?_;intro w1 an))
     go_roundw
     case rel =>
      refine ⟨k+1,by omega,by go_num,?_,HB.out.trans an⟩
      rw [Ba l k af,Ba r k aa,Ib _ _ _ _ _ (by simp;omega),ao.out,ak.out];rfl
     case measure=>simp [intOf];omega
    | false =>
     rw [hpk] at HC
     have ak:=Jh hpk
     clear hpk
     go_wp2_with (first | ((with_reducible show Jl 44);refine Aa rfl 44 _ rfl rfl (aq) Aw hn ?_) | ((with_reducible show Jl 44);refine Aa rfl 44 _ rfl rfl (ag.ext aj.out) Aw ab ?_) | ((with_reducible show Jl 44);refine Aa rfl 44 _ rfl rfl (ap) Aw hn ?_) | ((with_reducible show Jl 44);refine Aa rfl 44 _ rfl rfl (al) Aw ab ?_) | ((with_reducible show Js 44);refine Ad rfl 44 _ _ rfl rfl (by first | rfl | simp) rfl Aw (hn) rfl (am.one) ?_) | ((with_reducible show Js 44);refine Ad rfl 44 _ _ rfl rfl (by first | rfl | simp) rfl Aw (ab) rfl (ac.one) ?_) | ((with_reducible show Jw (Op.call { callee:=.value (.tmp _),args:=_,argTypes:=_ }));refine As rfl _ _ _ rfl rfl eg rfl HC ?_;intro w1 an))
     go_ret
     exact ⟨by rw [Hl p l r k af aa ak.out];rfl,HB.out.trans an⟩
   ·go_wp2_with fail
    go_ret
    obtain rfl:k=l.length:=by omega
    refine ⟨?_,hB⟩
    have:=ao.out
    rw [List.take_length,HL.out,List.take_length] at this
    rw [this];rfl
 ·have ai:(((l.length:Nat):Int) != ((r.length:Nat):Int))=true:=by rw [bne_iff_ne];omega
  have HL:=Jh j
  clear j
  go_enter Tryz.func62,Tryz.ntmps62
  go_wp2_with fail
  go_ret
  exact ⟨by rw [G5 p l r HL.out];rfl,Below.refl _ _⟩
theorem Qk (g:FuncId) (p:C0->C0->Bool) (l r:List C0) (s s':Value) (w:World) (h:Sl 2 (Cy w) s l) (h':Sl 2 (Cy w) s' r) (eg:Bj Tryz.prog g)
  (hp:∀ wr,Ext w wr->∀ k (hk:k<l.length) (hk':k<r.length) cs u,C9 wr cs l[k]->C9 wr u r[k]->Calls Tryz.prog g ([.agg cs.toArray,.agg u.toArray].toArray++#[]) wr fun r' w'=>r'=.returned (.bool (p l[k] r[k]))/\Ext wr w') :
  Calls Tryz.prog 67 #[s,s',.func (.func g) #[] #[]] w fun r' w'=>r'=.returned (.bool (Bg p l r))/\Ext w w':=by
 have HP:=Jh hp
 clear hp
 obtain ⟨a,b,o,cap,hs,ah,a0,ha,hr⟩:=h.open
 obtain ⟨a',b',o',ax,aw,ay,az,au,av⟩:=h'.open
 subst hs
 subst aw
 by_cases j:l.length=r.length
 ·have HL:=Jh j
  have ai:(((l.length:Nat):Int) != ((r.length:Nat):Int))=false:=by simp [j]
  clear j
  go_enter Tryz.func67,Tryz.ntmps67
  go_wp2_with fail
  clear ai
  go_loopw [7,8,9,17] (fun _ _ _ i wr=>∃ k:Nat,k<=l.length/\i=.int .i64 k/\Bg p (l.take k) (r.take k)=true/\Ext w wr) (fun _ _ _ i _=>l.length-(intOf i).toNat)
  case atStart=>exact ⟨0,Nat.zero_le _,rfl,by simp [Bg],Below.refl _ _⟩
  case round =>
   obtain ⟨k,hk,rfl,ar,hB⟩:=hrel
   have ao:=Jh ar
   clear ar
   by_cases af:k<l.length
   ·have aa:k<r.length:=by have:=HL.out;omega
    obtain ⟨cs,aq,hn,am⟩:=C9.get (hr.mono fun x _ b o h=>Cy.ext' hB h) af
    obtain ⟨u,ag,ab,ac⟩:=C9.get (av.mono fun x _ b o h=>Cy.ext' hB h) aa
    obtain rfl:=ha (by omega)
    obtain rfl:=au (by omega)
    have aj:=Jh (Ab wr (.cells cs.toArray 48))
    have ae:=Jh (aj.out.trans (Ab _ (.cells u.toArray 48)))
    have HC:=(HP.out _ (hB.trans ae.out) k af aa cs u (am.ext ae.out) (ac.ext ae.out))
    have ap:=(Has.alloc wr cs 48).ext (Ab _ (.cells u.toArray 48))
    have al:=Has.alloc (wr.alloc (.cells cs.toArray 48)) u 48
    rw [World.size_alloc] at al
    have HB:=Jh (hB.trans ae.out)
    cases hpk:p l[k] r[k] with
    | true =>
     rw [hpk] at HC
     have ak:=Jh hpk
     clear hpk
     go_wp2_with (first | ((with_reducible show Jl 48);refine Aa rfl 48 _ rfl rfl (aq) Cz hn ?_) | ((with_reducible show Jl 48);refine Aa rfl 48 _ rfl rfl (ag.ext aj.out) Cz ab ?_) | ((with_reducible show Jl 48);refine Aa rfl 48 _ rfl rfl (ap) Cz hn ?_) | ((with_reducible show Jl 48);refine Aa rfl 48 _ rfl rfl (al) Cz ab ?_) | ((with_reducible show Js 48);refine Ad rfl 48 _ _ rfl rfl (by first | rfl | simp) rfl Cz (hn) rfl (am.one) ?_) | ((with_reducible show Js 48);refine Ad rfl 48 _ _ rfl rfl (by first | rfl | simp) rfl Cz (ab) rfl (ac.one) ?_) | ((with_reducible show Jw (Op.call { callee:=.value (.tmp _),args:=_,argTypes:=_ }));refine As rfl _ _ _ rfl rfl eg rfl HC ?_;intro w1 an))
     go_roundw
     case rel =>
      refine ⟨k+1,by omega,by go_num,?_,HB.out.trans an⟩
      rw [Ba l k af,Ba r k aa,Ib _ _ _ _ _ (by simp;omega),ao.out,ak.out];rfl
     case measure=>simp [intOf];omega
    | false =>
     rw [hpk] at HC
     have ak:=Jh hpk
     clear hpk
     go_wp2_with (first | ((with_reducible show Jl 48);refine Aa rfl 48 _ rfl rfl (aq) Cz hn ?_) | ((with_reducible show Jl 48);refine Aa rfl 48 _ rfl rfl (ag.ext aj.out) Cz ab ?_) | ((with_reducible show Jl 48);refine Aa rfl 48 _ rfl rfl (ap) Cz hn ?_) | ((with_reducible show Jl 48);refine Aa rfl 48 _ rfl rfl (al) Cz ab ?_) | ((with_reducible show Js 48);refine Ad rfl 48 _ _ rfl rfl (by first | rfl | simp) rfl Cz (hn) rfl (am.one) ?_) | ((with_reducible show Js 48);refine Ad rfl 48 _ _ rfl rfl (by first | rfl | simp) rfl Cz (ab) rfl (ac.one) ?_) | ((with_reducible show Jw (Op.call { callee:=.value (.tmp _),args:=_,argTypes:=_ }));refine As rfl _ _ _ rfl rfl eg rfl HC ?_;intro w1 an))
     go_ret
     exact ⟨by rw [Hl p l r k af aa ak.out];rfl,HB.out.trans an⟩
   ·go_wp2_with fail
    go_ret
    obtain rfl:k=l.length:=by omega
    refine ⟨?_,hB⟩
    have:=ao.out
    rw [List.take_length,HL.out,List.take_length] at this
    rw [this];rfl
 ·have ai:(((l.length:Nat):Int) != ((r.length:Nat):Int))=true:=by rw [bne_iff_ne];omega
  have HL:=Jh j
  clear j
  go_enter Tryz.func67,Tryz.ntmps67
  go_wp2_with fail
  go_ret
  exact ⟨by rw [G5 p l r HL.out];rfl,Below.refl _ _⟩
theorem P6 (g:FuncId) (p:Chk->Chk->Bool) (l r:List Chk) (s s':Value) (w:World) (h:Sl 9 (Dr w) s l) (h':Sl 9 (Dr w) s' r) (eg:Bj Tryz.prog g)
  (hp:∀ wr,Ext w wr->∀ k (hk:k<l.length) (hk':k<r.length) cs u,Cf wr cs l[k]->Cf wr u r[k]->Calls Tryz.prog g ([.agg cs.toArray,.agg u.toArray].toArray++#[]) wr fun r' w'=>r'=.returned (.bool (p l[k] r[k]))/\Ext wr w') :
  Calls Tryz.prog 68 #[s,s',.func (.func g) #[] #[]] w fun r' w'=>r'=.returned (.bool (Bg p l r))/\Ext w w':=by
 have HP:=Jh hp
 clear hp
 obtain ⟨a,b,o,cap,hs,ah,a0,ha,hr⟩:=h.open
 obtain ⟨a',b',o',ax,aw,ay,az,au,av⟩:=h'.open
 subst hs
 subst aw
 by_cases j:l.length=r.length
 ·have HL:=Jh j
  have ai:(((l.length:Nat):Int) != ((r.length:Nat):Int))=false:=by simp [j]
  clear j
  go_enter Tryz.func68,Tryz.ntmps68
  go_wp2_with fail
  clear ai
  go_loopw [7,8,9,17] (fun _ _ _ i wr=>∃ k:Nat,k<=l.length/\i=.int .i64 k/\Bg p (l.take k) (r.take k)=true/\Ext w wr) (fun _ _ _ i _=>l.length-(intOf i).toNat)
  case atStart=>exact ⟨0,Nat.zero_le _,rfl,by simp [Bg],Below.refl _ _⟩
  case round =>
   obtain ⟨k,hk,rfl,ar,hB⟩:=hrel
   have ao:=Jh ar
   clear ar
   by_cases af:k<l.length
   ·have aa:k<r.length:=by have:=HL.out;omega
    obtain ⟨cs,aq,hn,am⟩:=Cf.get (hr.mono fun x _ b o h=>Dr.ext' hB h) af
    obtain ⟨u,ag,ab,ac⟩:=Cf.get (av.mono fun x _ b o h=>Dr.ext' hB h) aa
    obtain rfl:=ha (by omega)
    obtain rfl:=au (by omega)
    have aj:=Jh (Ab wr (.cells cs.toArray 96))
    have ae:=Jh (aj.out.trans (Ab _ (.cells u.toArray 96)))
    have HC:=(HP.out _ (hB.trans ae.out) k af aa cs u (am.ext ae.out) (ac.ext ae.out))
    have ap:=(Has.alloc wr cs 96).ext (Ab _ (.cells u.toArray 96))
    have al:=Has.alloc (wr.alloc (.cells cs.toArray 96)) u 96
    rw [World.size_alloc] at al
    have HB:=Jh (hB.trans ae.out)
    cases hpk:p l[k] r[k] with
    | true =>
     rw [hpk] at HC
     have ak:=Jh hpk
     clear hpk
     go_wp2_with (first | ((with_reducible show Jl 96);refine Aa rfl 96 _ rfl rfl (aq) Co hn ?_) | ((with_reducible show Jl 96);refine Aa rfl 96 _ rfl rfl (ag.ext aj.out) Co ab ?_) | ((with_reducible show Jl 96);refine Aa rfl 96 _ rfl rfl (ap) Co hn ?_) | ((with_reducible show Jl 96);refine Aa rfl 96 _ rfl rfl (al) Co ab ?_) | ((with_reducible show Js 96);refine Ad rfl 96 _ _ rfl rfl (by first | rfl | simp) rfl Co (hn) rfl (am.one) ?_) | ((with_reducible show Js 96);refine Ad rfl 96 _ _ rfl rfl (by first | rfl | simp) rfl Co (ab) rfl (ac.one) ?_) | ((with_reducible show Jw (Op.call { callee:=.value (.tmp _),args:=_,argTypes:=_ }));refine As rfl _ _ _ rfl rfl eg rfl HC ?_;intro w1 an))
     go_roundw
     case rel =>
      refine ⟨k+1,by omega,by go_num,?_,HB.out.trans an⟩
      rw [Ba l k af,Ba r k aa,Ib _ _ _ _ _ (by simp;omega),ao.out,ak.out];rfl
     case measure=>simp [intOf];omega
    | false =>
     rw [hpk] at HC
     have ak:=Jh hpk
     clear hpk
     go_wp2_with (first | ((with_reducible show Jl 96);refine Aa rfl 96 _ rfl rfl (aq) Co hn ?_) | ((with_reducible show Jl 96);refine Aa rfl 96 _ rfl rfl (ag.ext aj.out) Co ab ?_) | ((with_reducible show Jl 96);refine Aa rfl 96 _ rfl rfl (ap) Co hn ?_) | ((with_reducible show Jl 96);refine Aa rfl 96 _ rfl rfl (al) Co ab ?_) | ((with_reducible show Js 96);refine Ad rfl 96 _ _ rfl rfl (by first | rfl | simp) rfl Co (hn) rfl (am.one) ?_) | ((with_reducible show Js 96);refine Ad rfl 96 _ _ rfl rfl (by first | rfl | simp) rfl Co (ab) rfl (ac.one) ?_) | ((with_reducible show Jw (Op.call { callee:=.value (.tmp _),args:=_,argTypes:=_ }));refine As rfl _ _ _ rfl rfl eg rfl HC ?_;intro w1 an))
     go_ret
     exact ⟨by rw [Hl p l r k af aa ak.out];rfl,HB.out.trans an⟩
   ·go_wp2_with fail
    go_ret
    obtain rfl:k=l.length:=by omega
    refine ⟨?_,hB⟩
    have:=ao.out
    rw [List.take_length,HL.out,List.take_length] at this
    rw [this];rfl
 ·have ai:(((l.length:Nat):Int) != ((r.length:Nat):Int))=true:=by rw [bne_iff_ne];omega
  have HL:=Jh j
  clear j
  go_enter Tryz.func68,Tryz.ntmps68
  go_wp2_with fail
  go_ret
  exact ⟨by rw [G5 p l r HL.out];rfl,Below.refl _ _⟩
/-! ### two expressions are one -/
def eqE:E->E->Bool
 | ⟨op,w,v,sig,hi,lo,n,l⟩,e=>decide (op=e.op)&&decide (w=e.w)&&decide (v=e.v)&&decide (sig=e.sig)&&decide (hi=e.hi)&&decide (lo=e.lo)&&decide (n=e.n)&&rows l e.l
where rows:List E->List E->Bool
 | [],[]=>true
 | x::l,y::r=>eqE x y&&rows l r
 | _,_=>false
theorem eqE.rows_eq (l r:List E):eqE.rows l r=Bg eqE l r:=by
 induction l generalizing r with
 | nil=>cases r<;>rfl
 | cons x l ih=>cases r with
  | nil=>rfl
  | cons y r=>simp [eqE.rows,Bg,ih]
theorem Ads (a b:E):eqE a b=(decide (a.op=b.op)&&decide (a.w=b.w)&&decide (a.v=b.v)&&decide (a.sig=b.sig)&&decide (a.hi=b.hi)&&decide (a.lo=b.lo)&&decide (a.n=b.n)&&Bg eqE a.l b.l):=by
 cases a;simp [eqE,eqE.rows_eq]
theorem G0 {α:Type} (p:α->α->Bool) (l r:List α) (h:∀ x∈l,∀ y,p x y=true↔x=y):Bg p l r=true↔l=r:=by
 induction l generalizing r with
 | nil=>cases r<;>simp [Bg]
 | cons x l ih=>cases r with
  | nil=>simp [Bg]
  | cons y r=>simp [Bg,h x (by simp),ih r (fun x hx=>h x (by simp [hx]))]
theorem Kq (a:E):∀ b,eqE a b=true↔a=b:=by
 induction a using E.ind with
 | h a ih =>
  intro b
  rw [Ads]
  simp only [Bool.and_eq_true,decide_eq_true_eq,G0 eqE a.l b.l (fun x hx y=>ih x hx y)]
  cases a;cases b;simp [and_assoc]
theorem Pq:Bj Tryz.prog 65:=A9 Tryz.func65 (by kernel_rfl) rfl
theorem Ia (x:E):∀ (y:E) (cs aa:List Value) (w:World) (_:VE w cs x) (_:VE w aa y),
  Calls Tryz.prog 65 #[.agg cs.toArray,.agg aa.toArray] w fun r w'=>r=.returned (.bool (eqE x y))/\Ext w w':=by
 induction x using E.ind with
 | h x ih =>
 intro y cs aa w h h'
 have IH:=Jh ih
 clear ih
 obtain ⟨s,rfl,hs⟩:=h
 obtain ⟨s',rfl,af⟩:=h'
 have HE:=Jh (Ads x y)
 have ac:=Ab w (.cells (x.cells s).toArray 40)
 have ab:=Ab (w.alloc (.cells (x.cells s).toArray 40)) (.cells (y.cells s').toArray 40)
 have u:=(Has.alloc w (x.cells s) 40).ext ab
 have j:=Has.alloc (w.alloc (.cells (x.cells s).toArray 40)) (y.cells s') 40
 rw [World.size_alloc] at j
 have hX:=ac.trans ab
 have ae:=Pg 65 eqE x.l y.l s s' _ (hs.ext hX) (af.ext hX) Pq
  (fun wr hx k hk ak cs aa h h'=>IH.out _ (List.getElem_mem hk) _ cs aa wr h h')
 clear ac ab
 go_enter Tryz.func65,Tryz.ntmps65
 go_wp2_with fail
 generalize (w.alloc _).alloc _=w0 at *
 have HQ:=Jh ae
 clear ae
 obtain ⟨op,wd,v,sig,hi,lo,n,l⟩:=x
 obtain ⟨am,an,v',ai,aj,al,n',l'⟩:=y
 have a0:=u 0 _ rfl
 have a1:=u 1 _ rfl
 have a2:=u 2 _ rfl
 have a3:=u 3 _ rfl
 have a4:=u 4 _ rfl
 have a5:=u 5 _ rfl
 have a6:=u 6 _ rfl
 have a7:=u 7 _ rfl
 have c0:=j 0 _ rfl
 have c1:=j 1 _ rfl
 have c2:=j 2 _ rfl
 have c3:=j 3 _ rfl
 have c4:=j 4 _ rfl
 have c5:=j 5 _ rfl
 have c6:=j 6 _ rfl
 have c7:=j 7 _ rfl
 go_wp2_with (first | (go_at_call 99;refine HQ.out.mono ?_;rintro r w1 ⟨rfl,ag⟩))
 all_goals go_ret
 all_goals first
  | exact ⟨by rw [HE.out];simp only [decide_true,Bool.true_and,Bool.and_self, *];rfl,hX.trans (by first | exact ag | exact Below.refl _ _)⟩
  | exact ⟨Af (by rw [HE.out];simp_all),hX⟩
 all_goals trace_state
end Go.Proofs.YtbliplladmamoaaGreat
