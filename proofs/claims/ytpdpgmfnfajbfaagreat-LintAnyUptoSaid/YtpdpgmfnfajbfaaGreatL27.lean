/- Laws and walks that a claim of this seat leans on: Live2b, Rel. -/
import Derived.Test.YtpdpgmfnfajbfaaGreatL26
import Derived.Test.YtpdpgmfnfajbfaaGreatL01
import Derived.Test.YtpdpgmfnfajbfaaGreatL00
set_option maxRecDepth 100000
set_option maxHeartbeats 8000000
set_option linter.all false
namespace Go.Proofs.YtpdpgmfnfajbfaaGreat
open Go.RowKit
def MadeD (N:Nat) (w:World) (v:Value) (d:Flat):Prop:=∀ W,Since N w W->FlatV W v d
theorem madeD_of {N:Nat} {w:World} {S P:Nat} {css:List (List Value)} {l:List Proc} (hs:Blk w S (liveS.map Signal.cells).flatten.toArray 36) (hS:N<=S) (hp:Blk w P css.flatten.toArray 39) (hP:N<=P)
  (hl:css.length=l.length) (h2:∀ cs∈css,cs.length=2) (hn:l.length<=1000) (hv:∀ i (h:i<css.length) (h':i<l.length),FV VProc N w css[i] l[i]) :
  MadeD N w (.agg #[.slice (some ⟨S,0,none⟩) 4 4,.slice (some ⟨P,0,none⟩) l.length l.length,.slice none 0 0]) ⟨liveS,l,[]⟩:=fun W hW =>
 ⟨_,_,_,rfl,sigs_blk (hW.blk hs hS),procs_blk (hW.blk hp hP) hl h2 hn (fun i h h'=>hv i h h' W hW),Sl.nil _ _⟩
theorem live_ok (l:List Proc) (hw:∀ p∈l,p=liveY\/∃ s x:Int,p=setP s (sigE x)/\i64r s/\i64r x) (hn:mNodes ⟨liveS,l,[]⟩<=1048576) (hl:l.length<=1048576):Flat.ok ⟨liveS,l,[]⟩ where
 wf:={
  signals:=by
   intro x hx
   simp [liveS] at hx
   rcases hx with rfl | rfl | rfl | rfl<;>(refine ⟨by unfold i64r;decide,by unfold i64r;decide,by unfold u64r;decide,by decide⟩)
  procs:=by
   intro p hp t ht
   rcases hw p hp with rfl | ⟨s,x,rfl,h1,h2⟩
   ·simp [liveY,setP] at ht
    subst ht
    simp [T.wf,T.wf.wfs,E.wf,E.wf.wfs,sigE,i64r,u64r]
   ·simp [setP] at ht
    subst ht
    unfold i64r at h1 h2
    simp [T.wf,T.wf.wfs,E.wf,E.wf.wfs,sigE,i64r,u64r]
    omega
  checks:=by intro c hc;cases hc }
 nodes:=hn
 signals:=by show liveS.length<=1048576;decide
 procs:=hl
 checks:=Nat.zero_le _
theorem liveD_ok:liveD.ok:=live_ok _ (by intro p hp;simp at hp;rcases hp with rfl | rfl;exact .inl rfl;exact .inr ⟨3,1,rfl,by unfold i64r;decide,by unfold i64r;decide⟩) (by decide +kernel) (by decide)
theorem liveTwo_ok:liveTwo.ok:=live_ok _ (by intro p hp;simp at hp;rcases hp with rfl | rfl | rfl;exact .inl rfl;exact .inr ⟨3,1,rfl,by unfold i64r;decide,by unfold i64r;decide⟩;exact .inr ⟨3,2,rfl,by unfold i64r;decide,by unfold i64r;decide⟩) (by decide +kernel) (by decide)
theorem liveLoop_ok:liveLoop.ok:=live_ok _ (by intro p hp;simp at hp;rcases hp with rfl | rfl;exact .inl rfl;exact .inr ⟨3,2,rfl,by unfold i64r;decide,by unfold i64r;decide⟩) (by decide +kernel) (by decide)
theorem liveOne_ok:liveOne.ok:=live_ok _ (by intro p hp;simp at hp;rcases hp with rfl;exact .inl rfl) (by decide +kernel) (by decide)
theorem live_order (v:Value) (w:World) (h:FlatV w v liveD):Calls Tryz.prog 30 #[v] w fun r w'=>∃ g c,r=.returned (.tuple #[.slice (some ⟨g,0,none⟩) 2 c,.int .i64 0])/\w.heap.size<=g/\Has w' g 0 [.int .i64 1,.int .i64 0]/\Ext w w':=by
 refine (Order_calls liveD v w h liveD_ok).mono ?_
 rintro r w' ⟨ov,rfl,hr,hx⟩
 rw [live_look] at *
 obtain ⟨g,c,he,hg,hc⟩:=hr.open1 (by decide)
 subst he
 exact ⟨g,c,rfl,hg,fun j u hj=>by
  match j,hj with
  | 0,hj=>simp at hj;subst hj;exact hc 0 1 rfl
  | 1,hj=>simp at hj;subst hj;exact hc 1 0 rfl
  | j+2,hj=>simp at hj,hx⟩
theorem live_levels (v:Value) (w:World) (h:FlatV w v liveD):Calls Tryz.prog 57 #[v] w fun r w'=>∃ g c,r=.returned (.tuple #[.slice (some ⟨g,0,none⟩) 2 c,.int .i64 0])/\w.heap.size<=g/\Has w' g 0 [.int .i64 1,.int .i64 0]/\Ext w w':=by
 refine (Levels_calls liveD v w h liveD_ok).mono ?_
 rintro r w' ⟨ov,rfl,hr,hx⟩
 rw [live_lev] at *
 obtain ⟨g,c,he,hg,hc⟩:=hr.open1 (by decide)
 subst he
 exact ⟨g,c,rfl,hg,fun j u hj=>by
  match j,hj with
  | 0,hj=>simp at hj;subst hj;exact hc 0 1 rfl
  | 1,hj=>simp at hj;subst hj;exact hc 1 0 rfl
  | j+2,hj=>simp at hj,hx⟩
theorem live_drivers (v:Value) (w:World) (h:FlatV w v liveD):Calls Tryz.prog 19 #[v] w fun r w'=>∃ g c,r=.returned (.tuple #[.slice (some ⟨g,0,none⟩) 4 c,.int .i64 0])/\w.heap.size<=g/\Has w' g 0 [.int .i64 (-1),.int .i64 (-1),.int .i64 0,.int .i64 1]/\Ext w w':=by
 refine (Drivers_calls liveD v w h liveD_ok).mono ?_
 rintro r w' ⟨ov,rfl,hr,hx⟩
 rw [live_drv] at *
 obtain ⟨g,c,he,hg,hc⟩:=hr.open1 (by decide)
 subst he
 exact ⟨g,c,rfl,hg,fun j u hj=>by
  match j,hj with
  | 0,hj=>simp at hj;subst hj;exact hc 0 (-1) rfl
  | 1,hj=>simp at hj;subst hj;exact hc 1 (-1) rfl
  | 2,hj=>simp at hj;subst hj;exact hc 2 0 rfl
  | 3,hj=>simp at hj;subst hj;exact hc 3 1 rfl
  | j+4,hj=>simp at hj,hx⟩
theorem live_c1 (v:Value) (w:World) (h:FlatV w v liveD):Calls Tryz.prog 18 #[v] w fun r w'=>r=.returned (.int .i64 0)/\Ext w w':=by
 have:=LCheck_calls liveD v w h liveD_ok;rw [live_look] at this;exact this
theorem live_c2 (v:Value) (w:World) (h:FlatV w v liveTwo):Calls Tryz.prog 18 #[v] w fun r w'=>r=.returned (.int .i64 120)/\Ext w w':=by
 have:=LCheck_calls liveTwo v w h liveTwo_ok;rw [live_two] at this;exact this
theorem live_c3 (v:Value) (w:World) (h:FlatV w v liveLoop):Calls Tryz.prog 18 #[v] w fun r w'=>r=.returned (.int .i64 123)/\Ext w w':=by
 have:=LCheck_calls liveLoop v w h liveLoop_ok;rw [live_loop] at this;exact this
theorem live_c4 (v:Value) (w:World) (h:FlatV w v liveOne):Calls Tryz.prog 18 #[v] w fun r w'=>r=.returned (.int .i64 121)/\Ext w w':=by
 have:=LCheck_calls liveOne v w h liveOne_ok;rw [live_one] at this;exact this
def Rel1 (fr:Nat->(Nat->Value)->Act) (I:Nat->World->Prop):Act->World->Prop:=fun a w=>∃ k f,a=fr k f/\I k w
theorem Rel1.intro {fr:Nat->(Nat->Value)->Act} {I:Nat->World->Prop} {a:Act} {w:World} (k:Nat) (h:a=fr k (fun i=>a.tmps.getD i undef)) (hI:I k w):Rel1 fr I a w:=⟨k,_,h,hI⟩
theorem wl_pure {P:Program} {ops:Array Oper} {rest:List Oper} {o:Oper} {a:Act} {w:World} {Q:Exit->Act->World->Prop} {v:Value} (hw:Region.wanted o (yielded ops a.tmps)=true)
  (h:(execOp a.eval o).run P w=.ok (.value v) w) (k:wpList P ops Q rest (a.put o.dst v) w):wpList P ops Q (o::rest) a w :=
 BigFrame.wpList_want hw fun K hK=>by
  unfold Oper.wp
  rw [h]
  exact hK _ _ k
theorem forget {P:Program} {C:Code} {Q:Exit->Act->World->Prop} {a:Act} {w:World} (fr:(Nat->Value)->Act) (h:a=fr (fun i=>a.tmps.getD i undef)) (k:∀ f,C.wp P Q (fr f) w):C.wp P Q a w:=by
 rw [h];exact k _
end Go.Proofs.YtpdpgmfnfajbfaaGreat
