/- Laws and walks that a claim of this seat leans on: Live, Live2, Live2b, Rel. -/
import Derived.Test.YthpemngachlehaaGreatYLint
import Derived.Test.YthpemngachlehaaGreatY19
import Derived.Test.YthpemngachlehaaGreatY01
import Derived.Test.YthpemngachlehaaGreatY00
set_option linter.all false
namespace Go.Proofs.YthpemngachlehaaGreat
open Go.RowKit
/-! ### what is found, so that the kernel can count it -/
def insI (x:Int):List Int→List Int
 | []=>[x]
 | y :: l=>if x < y then x :: y :: l else if x=y then y :: l else y :: insI x l
def setF (l:List Int):List Int:=l.foldr insI []
theorem insI_mem (x z:Int) (l:List Int):z ∈ insI x l ↔ z=x ∨ z ∈ l:=by
 induction l with
 | nil=>simp [insI]
 | cons y l ih =>
  rw [insI]
  split
  ·simp
  ·split
   ·rename_i h;subst h;simp
   ·simp [ih]
    constructor
    ·rintro (h | h | h) <;> simp [h]
    ·rintro (h | h | h) <;> simp [h]
theorem insI_lt (x:Int) (l:List Int) (h:l.Pairwise (· < ·)):(insI x l).Pairwise (· < ·):=by
 induction l with
 | nil=>simp [insI]
 | cons y l ih =>
  obtain ⟨h1,h2⟩:=List.pairwise_cons.1 h
  rw [insI]
  split
  ·rename_i hxy
   refine List.pairwise_cons.2 ⟨fun z hz=>?_,h⟩
   rcases List.mem_cons.1 hz with e | hz
   ·omega
   ·have:=h1 z hz;omega
  ·split
   ·exact h
   ·rename_i h3 h4
    refine List.pairwise_cons.2 ⟨fun z hz=>?_,ih h2⟩
    rcases (insI_mem x z l).1 hz with e | hz
    ·omega
    ·exact h1 z hz
theorem setF_spec (l:List Int):(setF l).Pairwise (· < ·)∧∀ z,z ∈ setF l ↔ z ∈ l:=by
 induction l with
 | nil=>simp [setF]
 | cons x l ih =>
  refine ⟨insI_lt x _ ih.1,fun z=>?_⟩
  show z ∈ insI x (setF l) ↔ _
  rw [insI_mem,ih.2];simp
theorem setI_F (l:List Int):setI l=setF l:=setI_eq l _ (setF_spec l).1 fun x=>((setF_spec l).2 x).symm
def numbersF (offs:List Int) (xs:List Span):List Int:=setF (allNums offs xs)
theorem numbersM_F (offs:List Int) (xs:List Span):numbersM offs xs=numbersF offs xs:=by rw [numbersM_set,setI_F];rfl
def altF (offs:List Int):T→List Int × List Int
 | ⟨op,sig,hi,lo,_,l⟩ =>
  let r:=setF (fsts l)
  (if op=1 then numbersF offs [⟨sig,hi,lo⟩] else if op=2 ∨ op=3 then metM (snds l) else r,r)
where
 fsts:List T→List Int
  | []=>[]
  | t :: l=>(altF offs t).1 ++ fsts l
 snds:List T→List (List Int)
  | []=>[]
  | t :: l=>(altF offs t).2 :: snds l
theorem altT_F (offs:List Int) (t:T):altT offs t=altF offs t:=by
 induction t using T.ind with
 | h t ih =>
  obtain ⟨op,sig,hi,lo,e,l⟩:=t
  simp only at ih
  have h1:altT.fsts offs l=altF.fsts offs l:=by
   clear e
   induction l with
   | nil=>rfl
   | cons y l ih2 =>
    rw [altT.fsts,altF.fsts,ih y (by simp),ih2 fun z hz=>ih z (by simp [hz])]
  have h2:altT.snds offs l=altF.snds offs l:=by
   clear h1 e
   induction l with
   | nil=>rfl
   | cons y l ih2 =>
    rw [altT.snds,altF.snds,ih y (by simp),ih2 fun z hz=>ih z (by simp [hz])]
  simp only [altT,altF,h1,h2,setI_F,numbersM_F]
def writesF (d:Flat) (p:Int):List Int:=numbersF (offsD d) (spansW (procL d p))
def readsF (d:Flat) (p:Int):List Int:=numbersF (offsD d) (spansR d.signals (procL d p))
def alwaysF (d:Flat) (p:Int):List Int:=setF ((procL d p).map fun t=>(altF (offsD d) t).1).flatten
theorem writesM_F (d:Flat) (p:Int):writesM d p=writesF d p:=numbersM_F _ _
theorem readsM_F (d:Flat) (p:Int):readsM d p=readsF d p:=numbersM_F _ _
theorem alwaysM_F (d:Flat) (p:Int):alwaysM d p=alwaysF d p:=by
 unfold alwaysM alwM alwaysF alwP alt
 rw [setI_F]
 congr 2
 exact List.map_congr_left fun t _=>by rw [altT_F]
def drvF (d:Flat):Int × List Int:=if checkM d=0 then (match drvM (nBits d).toNat ((List.range d.procs.length).map fun (p:Nat)=>writesF d (p:Int)) with | none=>(120,[]) | some o=>(0,o)) else (1,[])
theorem drvD_F (d:Flat):drvD d=drvF d:=by
 unfold drvD drvF wsM
 simp only [writesM_F]
 by_cases h:checkM d=0
 ·rw [if_pos h,if_pos h]
  split <;> simp_all
 ·rw [if_neg h,if_neg h]
def graphF (d:Flat) (by':List Int):List (List Int):=hangM by' (clks d) ((List.range d.procs.length).map fun (p:Nat)=>readsF d (p:Int))
theorem graphM_F (d:Flat) (by':List Int):graphM d by'=graphF d by':=by
 unfold graphM graphF rsM
 simp only [readsM_F]
def latFF (d:Flat):Nat→List Proc→Bool
 | _,[]=>false
 | p,x :: l=>if (!x.clocked && !decide ((writesF d (p:Int)).length=(alwaysF d (p:Int)).length))=true then true else latFF d (p + 1) l
theorem latF_F (d:Flat) (l:List Proc):∀ p,latF d p l=latFF d p l:=by
 induction l with
 | nil=>intro p;rfl
 | cons x l ih=>intro p;rw [latF,latFF,ih,writesM_F,alwaysM_F]
def lookF (d:Flat):Int × List (List Int) × List Int :=
 if (drvF d).1=0 then
  if noneF d.signals (drvF d).2 0 d.signals=true then (121,[],[])
  else if latFF d 0 d.procs=true then (122,[],[])
  else if (ordM (graphF d (drvF d).2) (clks d)).length < wiresM (clks d) then (123,[],[])
  else (0,graphF d (drvF d).2,ordM (graphF d (drvF d).2) (clks d))
 else ((drvF d).1,[],[])
theorem lookM_F (d:Flat):lookM d=lookF d:=by
 unfold lookM lookF
 rw [drvD_F,latF_F,graphM_F]
 by_cases h:(drvF d).1=0
 ·rw [if_neg (by simp [h]),if_pos h]
 ·rw [if_pos h,if_neg h]
/-! ### the chapter's example -/
def sigE (s:Int):E:=⟨2,1,0,s,0,0,0,[]⟩
def setP (s:Int) (e:E):Proc:=⟨false,[⟨1,s,0,0,[e],[]⟩]⟩
def bytesOf (l:List UInt8):ByteArray:=⟨l.toArray⟩
def liveS:List Signal:=[⟨bytesOf [97],1,1,0⟩,⟨bytesOf [98],1,1,0⟩,⟨bytesOf [121],1,2,0⟩,⟨bytesOf [119],1,3,0⟩]
def liveY:Proc:=setP 2 ⟨5,1,0,0,0,0,11,[sigE 0,sigE 3]⟩
def liveD:Flat:=⟨liveS,[liveY,setP 3 (sigE 1)],[]⟩
def liveTwo:Flat:=⟨liveS,[liveY,setP 3 (sigE 1),setP 3 (sigE 2)],[]⟩
def liveLoop:Flat:=⟨liveS,[liveY,setP 3 (sigE 2)],[]⟩
def liveOne:Flat:=⟨liveS,[liveY],[]⟩
set_option maxRecDepth 100000
theorem live_look:lookM liveD=(0,[[1],[]],[1,0]):=by rw [lookM_F];decide +kernel
theorem live_lev:levD liveD=(0,[1,0]):=by unfold levD;rw [live_look];decide +kernel
theorem live_drv:drvD liveD=(0,[-1,-1,0,1]):=by rw [drvD_F];decide +kernel
theorem live_two:(lookM liveTwo).1=120:=by rw [lookM_F];decide +kernel
theorem live_loop:(lookM liveLoop).1=123:=by rw [lookM_F];decide +kernel
theorem live_one:(lookM liveOne).1=121:=by rw [lookM_F];decide +kernel
open Go.RowKit
set_option maxHeartbeats 1000000 in
theorem sig_calls (s:Int) (w:World) :
  Calls Tryz.prog 26 #[.int .i64 s] w fun r w'=>r=.returned (.agg ((sigE s).cells (.slice none 0 0)).toArray)∧Ext w w':=by
 go_enter Tryz.func26,Tryz.ntmps26
 go_upto_region 1 with fail
 have hx:=ext_alloc w (.cells ((sigE s).cells (.slice none 0 0)).toArray 48)
 have hb:=Blk.new w ((sigE s).cells (.slice none 0 0)).toArray 48
 go_wp2_with ((with_reducible show wpList _ _ _ (⟨_,Op.store 48 _ _,_,_,_,_⟩ :: _) _ _);refine wpList_store_new rfl 48 _ _ rfl rfl (by first | rfl | simp) (cs:=(sigE s).cells (.slice none 0 0)) rfl agg_E rfl rfl (by simp [one_int,Value.oneCell']) ?_)
 refine post_ret_blk rfl rfl hb.has agg_E rfl rfl ⟨rfl,hx⟩
theorem sig_VE (s:Int) (w:World):VE w ((sigE s).cells (.slice none 0 0)) (sigE s):=⟨_,rfl,Sl.nil _ _⟩
set_option maxHeartbeats 1000000 in
theorem lset_calls (N:Nat) (s:Int) (cs:List Value) (e:E) (w:World) (h:FV VE N w cs e) (hN:N ≤ w.heap.size) :
  Calls Tryz.prog 25 #[.int .i64 s,.agg cs.toArray] w fun r w'=>∃ cs',r=.returned (.agg cs'.toArray)∧cs'.length=2∧cs'.all (·.oneCell')=true∧FV VProc N w' cs' (setP s e)∧Ext w w':=by
 have HV:=Lib.hid h
 obtain ⟨sv,rfl,hes⟩:=h.here
 have hone:(e.cells sv).all (·.oneCell')=true:=by simp [hes.one,one_int]
 have hx1:=ext_alloc w (.cells (e.cells sv).toArray 48)
 have hb1:=Blk.new w (e.cells sv).toArray 48
 clear hes
 go_enter Tryz.func25,Tryz.ntmps25
 go_upto_region 1 with fail
 have hx2:=ext_alloc (w.alloc (.cells (e.cells sv).toArray 48)) (.cells #[.bool false,.slice none 0 0] 38)
 have hb2:=Blk.new (w.alloc (.cells (e.cells sv).toArray 48)) #[.bool false,.slice none 0 0] 38
 rw [show (w.alloc (.cells (e.cells sv).toArray 48)).heap.size=w.heap.size + 1 by simp] at hb2
 have hb12:=hb1.ext hx2
 have hX2:=hx1.trans hx2
 generalize (w.alloc _).alloc _=w2 at *
 go_wp2_with (first | ((with_reducible show wpList _ _ _ (⟨_,Op.load 48 _,_,_,_,_⟩ :: _) _ _);refine wpList_load_has rfl 48 _ rfl rfl (hb12.has) agg_E rfl ?_) | ((with_reducible show wpList _ _ _ (⟨_,Op.buildSlice _ _ _,_,_,_,_⟩ :: _) _ _);refine Hid.out ?_))
 refine Lib.hid ?_
 refine wpList_bs1 rfl _ _ rfl appE rfl (cs:=e.cells sv) rfl rfl (by decide) ?_
 have hx3:=ext_alloc w2 (.cells (e.cells sv).toArray 48)
 have hb3:=Blk.new w2 (e.cells sv).toArray 48
 have hX3:=hX2.trans hx3
 have hbp:=hb2.ext hx3
 have hs3:(w2.alloc (.cells (e.cells sv).toArray 48)).heap.size=w2.heap.size + 1:=by simp
 have hz2:=hb2.lt
 generalize w2.alloc _=w3 at *
 have HS3:=Lib.hid hs3
 obtain ⟨B2,hB2⟩ : ∃ B2,w2.heap.size=B2:=⟨_,rfl⟩
 rw [hB2] at hb3 hz2 ⊢
 have HB2:=Lib.hid hB2
 clear hs3 hB2
 go_wp2_with ((with_reducible show wpList _ _ _ (⟨_,Op.buildSlice _ _ _,_,_,_,_⟩ :: _) _ _);refine Hid.out ?_)
 refine Lib.hid ?_
 have hx4:=ext_alloc w3 (.cells ((⟨1,s,0,0,[e],[]⟩ : T).cells (.slice (some ⟨B2,0,none⟩) 1 1) (.slice none 0 0)).toArray 68)
 have hb4:=Blk.new w3 ((⟨1,s,0,0,[e],[]⟩ : T).cells (.slice (some ⟨B2,0,none⟩) 1 1) (.slice none 0 0)).toArray 68
 refine wpList_bs1 rfl _ _ rfl appT rfl (cs:=(⟨1,s,0,0,[e],[]⟩ : T).cells (.slice (some ⟨B2,0,none⟩) 1 1) (.slice none 0 0)) rfl rfl (by decide) ?_
 have hX4:=hX3.trans hx4
 have hbp4:=hbp.ext hx4
 have hb34:=hb3.ext hx4
 obtain ⟨B3,hB3⟩ : ∃ B3,w3.heap.size=B3:=⟨_,rfl⟩
 have hz3:w.heap.size + 1 < B3:=by have:=HS3.out;have:=HB2.out;omega
 rw [hB3] at hb4 ⊢
 generalize w3.alloc _=w4 at *
 clear hB3
 go_wp2_with ((with_reducible show wpList _ _ _ (⟨_,Op.store 38 _ _,_,_,_,_⟩ :: _) _ _);refine wpList_store_blk rfl 38 _ _ rfl hbp4 rfl (cs:=[.bool false,.slice (some ⟨B3,0,none⟩) 1 1]) rfl agg_Proc rfl rfl (by simp [one_bool,Value.oneCell']) ?_;intro w5 hb5 hg5)
 have hX5:Ext w w5:=Ext.grown hX4 hg5 (by omega)
 have hb45:=hb4.grown hg5 (by omega)
 have hb35:=hb34.grown hg5 (by omega)
 have HX5:=Lib.hid hX5
 have HB45:=Lib.hid hb45
 have HB35:=Lib.hid hb35
 have hz2':w.heap.size ≤ B2:=by omega
 have hfv:FV VProc N w5 [.bool false,.slice (some ⟨B3,0,none⟩) 1 1] (setP s e):=fun W hW=>by
  have hEs:Es W (.slice (some ⟨B2,0,none⟩) 1 1) [e]:=⟨B2,0,⟨_,1,rfl,Nat.le_refl _,by decide,fun _=>rfl⟩,VE.at (hW.blk HB35.out (by omega)).has (HV.out W ((Since.of_ext HX5.out).trans hW)),trivial⟩
  exact ⟨_,rfl,B3,0,⟨_,1,rfl,Nat.le_refl _,by decide,fun _=>rfl⟩,TAt_iff.2 ⟨_,_,(hW.blk HB45.out (by omega)).has,hEs,Sl.nil _ _⟩,trivial⟩
 refine post_ret_blk rfl rfl hb5.has agg_Proc rfl rfl ⟨_,rfl,rfl,by simp [one_bool,Value.oneCell'],hfv,hX5⟩
theorem Since.more {N B:Nat} {a b c:World} (h:Since N a b) (hg:b.grownBy c (some B)) (hB:B < N ∨ a.heap.size ≤ B):Since N a c :=
 ⟨Nat.le_trans h.1 hg.size,fun x h1 h2=>(hg.block x (Nat.lt_of_lt_of_le h2 h.1) (by intro e;injection e;omega)).trans (h.2 x h1 h2)⟩
theorem sigs_blk {W:World} {B:Nat} (h:Blk W B (liveS.map Signal.cells).flatten.toArray 42):Sigs W (.slice (some ⟨B,0,none⟩) 4 4) liveS :=
 ⟨B,0,⟨_,4,rfl,Nat.le_refl _,by decide,fun _=>rfl⟩,rows_flat (f:=Signal.cells) (fun _=>rfl) liveS 0 h.has⟩
theorem procs_blk {W:World} {B:Nat} {css:List (List Value)} {l:List Proc} (h:Blk W B css.flatten.toArray 38) (hl:css.length=l.length) (h2:∀ cs ∈ css,cs.length=2) (hn:l.length ≤ 1000) (hv:∀ i (h:i < css.length) (h':i < l.length),VProc W css[i] l[i]) :
  Procs W (.slice (some ⟨B,0,none⟩) l.length l.length) l :=
 ⟨B,0,⟨_,l.length,rfl,Nat.le_refl _,by simp only [maxLen];omega,fun _=>rfl⟩,rows_of_flat (V:=VProc) (fun _ _ _ _ _ h hv=>VProc.at h hv) l css W B 0 h.has hl h2 hv⟩
theorem sig_FV (s:Int) (N:Nat) (w:World):FV VE N w ((sigE s).cells (.slice none 0 0)) (sigE s):=fun W _=>sig_VE s W
open Go.RowKit
def MadeD (N:Nat) (w:World) (v:Value) (d:Flat):Prop:=∀ W,Since N w W→FlatV W v d
theorem madeD_of {N:Nat} {w:World} {S P:Nat} {css:List (List Value)} {l:List Proc} (hs:Blk w S (liveS.map Signal.cells).flatten.toArray 42) (hS:N ≤ S) (hp:Blk w P css.flatten.toArray 38) (hP:N ≤ P)
  (hl:css.length=l.length) (h2:∀ cs ∈ css,cs.length=2) (hn:l.length ≤ 1000) (hv:∀ i (h:i < css.length) (h':i < l.length),FV VProc N w css[i] l[i]) :
  MadeD N w (.agg #[.slice (some ⟨S,0,none⟩) 4 4,.slice (some ⟨P,0,none⟩) l.length l.length,.slice none 0 0]) ⟨liveS,l,[]⟩:=fun W hW =>
 ⟨_,_,_,rfl,sigs_blk (hW.blk hs hS),procs_blk (hW.blk hp hP) hl h2 hn (fun i h h'=>hv i h h' W hW),Sl.nil _ _⟩
theorem FV.mono' {α : Type} {V:World→List Value→α→Prop} {N M:Nat} {a b:World} {cs:List Value} {x : α} (h:FV V M a cs x) (hs:Since M a b) (hN:N ≤ M):FV V N b cs x:=fun W hW=>h W (hs.trans (hW.mono hN))
theorem has_since {N:Nat} {a b:World} {B o:Nat} {cs:List Value} (h:Has a B o cs) (hN:N ≤ B) (hs:Since N a b):Has b B o cs:=fun j u hj=>by
 have:=h j u hj
 exact (World.cell?_of_block (a:=⟨B,o + j,none⟩) (hs.2 B hN (World.block_lt_of_cell? a _ this))).trans this
theorem live_ok (l:List Proc) (hw:∀ p ∈ l,p=liveY ∨ ∃ s x:Int,p=setP s (sigE x)∧i64r s∧i64r x) (hn:mNodes ⟨liveS,l,[]⟩ ≤ 1048576) (hl:l.length ≤ 1048576):Flat.ok ⟨liveS,l,[]⟩ where
 wf:={
  signals:=by
   intro x hx
   simp [liveS] at hx
   rcases hx with rfl | rfl | rfl | rfl <;> (refine ⟨by unfold i64r;decide,by unfold i64r;decide,by unfold u64r;decide,by decide⟩)
  procs:=by
   intro p hp t ht
   rcases hw p hp with rfl | ⟨s,x,rfl,h1,h2⟩
   ·simp [liveY,setP] at ht
    subst ht
    simp [T.wf,T.wf.wfs,E.wf,E.wf.wfs,sigE,i64r,u64r]
   ·simp [setP] at ht
    subst ht
    unfold i64r at h1 h2
    simp [T.wf,T.wf.wfs,E.wf,E.wf.wfs,sigE,i64r,u64r]
    omega
  checks:=by intro c hc;cases hc }
 nodes:=hn
 signals:=by show liveS.length ≤ 1048576;decide
 procs:=hl
 checks:=Nat.zero_le _
theorem liveD_ok:liveD.ok:=live_ok _ (by intro p hp;simp at hp;rcases hp with rfl | rfl;exact .inl rfl;exact .inr ⟨3,1,rfl,by unfold i64r;decide,by unfold i64r;decide⟩) (by decide +kernel) (by decide)
theorem liveTwo_ok:liveTwo.ok:=live_ok _ (by intro p hp;simp at hp;rcases hp with rfl | rfl | rfl;exact .inl rfl;exact .inr ⟨3,1,rfl,by unfold i64r;decide,by unfold i64r;decide⟩;exact .inr ⟨3,2,rfl,by unfold i64r;decide,by unfold i64r;decide⟩) (by decide +kernel) (by decide)
theorem liveLoop_ok:liveLoop.ok:=live_ok _ (by intro p hp;simp at hp;rcases hp with rfl | rfl;exact .inl rfl;exact .inr ⟨3,2,rfl,by unfold i64r;decide,by unfold i64r;decide⟩) (by decide +kernel) (by decide)
theorem liveOne_ok:liveOne.ok:=live_ok _ (by intro p hp;simp at hp;rcases hp with rfl;exact .inl rfl) (by decide +kernel) (by decide)
theorem live_order (v:Value) (w:World) (h:FlatV w v liveD):Calls Tryz.prog 16 #[v] w fun r w'=>∃ g c,r=.returned (.tuple #[.slice (some ⟨g,0,none⟩) 2 c,.int .i64 0])∧w.heap.size ≤ g∧Has w' g 0 [.int .i64 1,.int .i64 0]∧Ext w w':=by
 refine (Order_calls liveD v w h liveD_ok).mono ?_
 rintro r w' ⟨ov,rfl,hr,hx⟩
 rw [live_look] at *
 obtain ⟨g,c,he,hg,hc⟩:=hr.open1 (by decide)
 subst he
 exact ⟨g,c,rfl,hg,fun j u hj=>by
  match j,hj with
  | 0,hj=>simp at hj;subst hj;exact hc 0 1 rfl
  | 1,hj=>simp at hj;subst hj;exact hc 1 0 rfl
  | j + 2,hj=>simp at hj,hx⟩
theorem live_levels (v:Value) (w:World) (h:FlatV w v liveD):Calls Tryz.prog 18 #[v] w fun r w'=>∃ g c,r=.returned (.tuple #[.slice (some ⟨g,0,none⟩) 2 c,.int .i64 0])∧w.heap.size ≤ g∧Has w' g 0 [.int .i64 1,.int .i64 0]∧Ext w w':=by
 refine (Levels_calls liveD v w h liveD_ok).mono ?_
 rintro r w' ⟨ov,rfl,hr,hx⟩
 rw [live_lev] at *
 obtain ⟨g,c,he,hg,hc⟩:=hr.open1 (by decide)
 subst he
 exact ⟨g,c,rfl,hg,fun j u hj=>by
  match j,hj with
  | 0,hj=>simp at hj;subst hj;exact hc 0 1 rfl
  | 1,hj=>simp at hj;subst hj;exact hc 1 0 rfl
  | j + 2,hj=>simp at hj,hx⟩
theorem live_drivers (v:Value) (w:World) (h:FlatV w v liveD):Calls Tryz.prog 11 #[v] w fun r w'=>∃ g c,r=.returned (.tuple #[.slice (some ⟨g,0,none⟩) 4 c,.int .i64 0])∧w.heap.size ≤ g∧Has w' g 0 [.int .i64 (-1),.int .i64 (-1),.int .i64 0,.int .i64 1]∧Ext w w':=by
 refine (Drivers_calls liveD v w h liveD_ok).mono ?_
 rintro r w' ⟨ov,rfl,hr,hx⟩
 rw [live_drv] at *
 obtain ⟨g,c,he,hg,hc⟩:=hr.open1 (by decide)
 subst he
 exact ⟨g,c,rfl,hg,fun j u hj=>by
  match j,hj with
  | 0,hj=>simp at hj;subst hj;exact hc 0 (-1) rfl
  | 1,hj=>simp at hj;subst hj;exact hc 1 (-1) rfl
  | 2,hj=>simp at hj;subst hj;exact hc 2 0 rfl
  | 3,hj=>simp at hj;subst hj;exact hc 3 1 rfl
  | j + 4,hj=>simp at hj,hx⟩
theorem live_c1 (v:Value) (w:World) (h:FlatV w v liveD):Calls Tryz.prog 14 #[v] w fun r w'=>r=.returned (.int .i64 0)∧Ext w w':=by
 have:=LCheck_calls liveD v w h liveD_ok;rw [live_look] at this;exact this
theorem live_c2 (v:Value) (w:World) (h:FlatV w v liveTwo):Calls Tryz.prog 14 #[v] w fun r w'=>r=.returned (.int .i64 120)∧Ext w w':=by
 have:=LCheck_calls liveTwo v w h liveTwo_ok;rw [live_two] at this;exact this
theorem live_c3 (v:Value) (w:World) (h:FlatV w v liveLoop):Calls Tryz.prog 14 #[v] w fun r w'=>r=.returned (.int .i64 123)∧Ext w w':=by
 have:=LCheck_calls liveLoop v w h liveLoop_ok;rw [live_loop] at this;exact this
theorem live_c4 (v:Value) (w:World) (h:FlatV w v liveOne):Calls Tryz.prog 14 #[v] w fun r w'=>r=.returned (.int .i64 121)∧Ext w w':=by
 have:=LCheck_calls liveOne v w h liveOne_ok;rw [live_one] at this;exact this
open Go.RowKit
theorem wl_pure {P:Program} {ops:Array Oper} {rest:List Oper} {o:Oper} {a:Act} {w:World} {Q:Exit→Act→World→Prop} {v:Value} (hw:Region.wanted o (yielded ops a.tmps)=true)
  (h:(execOp a.eval o).run P w=.ok (.value v) w) (k:wpList P ops Q rest (a.put o.dst v) w):wpList P ops Q (o :: rest) a w :=
 BigFrame.wpList_want hw fun K hK=>by
  unfold Oper.wp
  rw [h]
  exact hK _ _ k
theorem forget {P:Program} {C:Code} {Q:Exit→Act→World→Prop} {a:Act} {w:World} (fr:(Nat→Value)→Act) (h:a=fr (fun i=>a.tmps.getD i undef)) (k:∀ f,C.wp P Q (fr f) w):C.wp P Q a w:=by
 rw [h];exact k _
end Go.Proofs.YthpemngachlehaaGreat
