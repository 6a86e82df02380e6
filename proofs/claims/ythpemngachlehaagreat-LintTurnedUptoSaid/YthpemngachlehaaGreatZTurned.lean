/- Laws and walks that a claim of this seat leans on: Turned. -/
import Derived.Test.YthpemngachlehaaGreatZTurnL2
import Derived.Test.YthpemngachlehaaGreatZ13
import Derived.Test.YthpemngachlehaaGreatZLive3
import Derived.Test.YthpemngachlehaaGreatZRef17
import Derived.Test.YthpemngachlehaaGreatZ00
set_option linter.all false
namespace Go.Proofs.YthpemngachlehaaGreat
open Go.RowKit

theorem len_reverse_take {α : Type} {css : List α} {n k : Nat} (h : css.length = n) (hk : k < n) : css.reverse.take (k + 1) = css.reverse.take k ++ [css[n - 1 - k]'(by omega)] := by
 subst h
 rw [List.take_add_one]
 congr 1
 rw [List.getElem?_reverse hk, List.getElem?_eq_getElem (by omega)]
 rfl

theorem ownsRow_procsO {w : World} {N n cap : Nat} {a : Option Addr} {css : List (List Value)} (h : w.ownsRow N 38 2 (.slice a n cap) n css.flatten) (l : List Proc) (hn : n = l.length) (hl : css.length = l.length) (h2 : ∀ cs ∈ css, cs.length = 2)
  (hv : ∀ i (h : i < css.length) (h' : i < l.length), VProc w css[i] l[i]) : Procs w (.slice a n cap) l := by
 rcases h.2 with ⟨h0, h1⟩ | ⟨g, cap', cur, e, -⟩
 ·injection h0 with e1 e2 e3
  subst e1 e2 e3
  obtain rfl : l = [] := List.eq_nil_of_length_eq_zero hn.symm
  exact Sl.nil _ _
 ·injection e with e1 e2 e3
  subst e1
  exact ownsRow_procs h l hn hl h2 hv

set_option maxRecDepth 100000 in
set_option maxHeartbeats 8000000 in
theorem LintTurned_calls (d : Flat) (v : Value) (w : World) (h : FlatV w v d) (hok : d.ok) :
  Calls Tryz.prog 7 #[v] w fun r w' => r = .returned (.bool true) ∧ Ext w w' := by
 have HF := Lib.hid h
 obtain ⟨sv, pv, cv, rfl, hS, hP, hC⟩ := h
 have HX := Lib.hid (ext_alloc w (.cells [sv, pv, cv].toArray 26))
 have HB := Lib.hid (Blk.new w [sv, pv, cv].toArray 26)
 have hln := hok.procs
 obtain ⟨a0, b0, o0, c0, rfl, hc1, hc2, ha, hr⟩ := hP.open
 have HA := Lib.hid ha
 have HONE := Lib.hid (show [sv, .slice a0 d.procs.length c0, cv].all (·.oneCell') = true by simp only [List.all_cons, hS.one, hC.one, List.all_nil, Bool.and_true]; rfl)
 have HSC := Lib.hid (show Sigs w sv d.signals ∧ Chks w cv d.checks from ⟨hS, hC⟩)
 have HCSS := Lib.hid (procs_css d.procs b0 o0 hr)
 clear hS hP hC ha hr
 go_enter Tryz.func7, Tryz.ntmps7
 go_upto_region 2 with (first | (go_at_call 9; refine (live_calls _).mono ?_; rintro r w2 ⟨rfl, hx2⟩))
 have HX2 := Lib.hid (HX.out.trans hx2)
 have HB2 := Lib.hid (HB.out.ext hx2)
 generalize w.alloc _ = w1 at *
 clear hx2 HB HX
 have HFW : Hid (Calls Tryz.prog 10 _ w2 fun r w' => r = .returned (.bool (few12 d)) ∧ Ext w2 w') := Lib.hid (few12_calls d _ w2 (HF.out.ext HX2.out) hok.nodes)
 obtain ⟨fw, hfw⟩ : ∃ fw, few12 d = fw := ⟨_, rfl⟩
 rw [hfw] at HFW
 clear hfw
 have HOK := Lib.hid hok
 clear hok
 cases fw
 ·go_wp2_with (first | ((with_reducible show wpList _ _ _ (⟨_, Op.load 26 _, _, _, _, _⟩ :: _) _ _); refine wpList_load_has rfl 26 _ rfl rfl (HB2.out.has) agg_Flat rfl ?_) | (go_at_call 10; refine HFW.out.mono ?_; rintro r w3 ⟨rfl, hx3⟩))
  go_ret
  exact ⟨rfl, HX2.out.trans hx3⟩
 ·go_upto_region 5 with (first | ((with_reducible show wpList _ _ _ (⟨_, Op.load 26 _, _, _, _, _⟩ :: _) _ _); refine wpList_load_has rfl 26 _ rfl rfl (HB2.out.has) agg_Flat rfl ?_) | (go_at_call 10; refine HFW.out.mono ?_; rintro r w3 ⟨rfl, hx3⟩; have y1 := (HB2.out.ext hx3).has 1 _ rfl; rw [Nat.zero_add] at y1))
  have HX3 := Lib.hid (HX2.out.trans hx3)
  have HB3 := Lib.hid (HB2.out.ext hx3)
  clear hx3 y1 HFW HB2 HX2
  have hx4 := ext_alloc w3 (.cells [sv, .slice a0 d.procs.length c0, cv].toArray 26)
  have hb4 := Blk.new w3 [sv, .slice a0 d.procs.length c0, cv].toArray 26
  have hs4 : w3.heap.size < (w3.alloc (.cells [sv, .slice a0 d.procs.length c0, cv].toArray 26)).heap.size := by simp
  have hs3 : w.heap.size < w3.heap.size := HB3.out.lt
  go_upto_region 6 with (first | ((with_reducible show wpList _ _ _ (⟨_, Op.load 26 _, _, _, _, _⟩ :: _) _ _); refine wpList_load_has rfl 26 _ rfl rfl (HB3.out.has) agg_Flat rfl ?_) | ((with_reducible show wpList _ _ _ (⟨_, Op.store 26 _ _, _, _, _, _⟩ :: _) _ _); refine wpList_store_new rfl 26 _ _ rfl rfl (by first | rfl | simp) rfl agg_Flat (rfl) rfl (HONE.out) ?_))
  generalize w3.alloc _ = w4 at *
  have z1 := hb4.has 1 _ rfl
  have r1 := hb4.frozen 1
  rw [Nat.zero_add] at z1
  have HB4 := Lib.hid (HB3.out.ext hx4)
  have HM4 := Lib.hid hb4
  have HX4 := Lib.hid hx4
  clear hx4 hb4
  go_upto_region 7 with fail
  have hm5 : Blk _ w3.heap.size [sv, .slice Option.none 0 0, cv].toArray 26 := HM4.out.set 1 (.slice Option.none 0 0)
  have hg5 := gb_set w4 w3.heap.size 1 (.slice Option.none 0 0)
  have HM5 := Lib.hid hm5
  have HB5 := Lib.hid (HB4.out.grown hg5 (by omega))
  have HX5 := Lib.hid (HX4.out.grown hg5 (Nat.le_refl _))
  have hs5 := hg5.size
  clear hg5 z1 r1 hm5
  generalize w4.setCell _ _ = w5 at *
  clear HM4 HB4 HX4
  obtain ⟨css, hcl, hc2l, hcone, hchas, hcv⟩ := HCSS.out
  have HCL := Lib.hid hcl
  have HC2 := Lib.hid hc2l
  have HCO := Lib.hid hcone
  have HCV := Lib.hid hcv
  have HCH := Lib.hid (hchas.ext HX3.out)
  have HNN : Hid (w5.ownsRow w5.heap.size 38 2 (.slice Option.none 0 0) 0 []) := Lib.hid ⟨by simp, .inl ⟨rfl, rfl⟩⟩
  clear hcl hc2l hcone hchas hcv HCSS
  go_upto_region 8 with fail
  go_loopw [6] (fun i wr => ∃ (k : Nat) (a : Option Addr) (cap : Nat), k ≤ d.procs.length ∧ i = .int .i64 ((d.procs.length : Int) - 1 - (k : Int)) ∧ wr.ownsRow w5.heap.size 38 2 (.slice a k cap) k (css.reverse.take k).flatten ∧ Blk wr w3.heap.size [sv, .slice a k cap, cv].toArray 26 ∧ Ext w3 wr ∧ w5.heap.size ≤ wr.heap.size) (fun i _ => (intOf i + 1).toNat)
  case atStart => exact ⟨0, Option.none, 0, Nat.zero_le _, by congr 1; omega, HNN.out, HM5.out, HX5.out, Nat.le_refl _⟩
  case round =>
   obtain ⟨k, a, cap, hk, rfl, hrow, hM, hxr, hsr⟩ := hrel
   by_cases hlt : k < d.procs.length
   ·obtain rfl := HA.out (by omega)
    obtain ⟨p, hpk⟩ : ∃ p : Nat, d.procs.length = p + k + 1 := ⟨d.procs.length - 1 - k, by omega⟩
    have hp0 : p < d.procs.length := by omega
    have hpc : p < css.length := by rw [HCL.out]; exact hp0
    have hpi : ((d.procs.length : Int) - 1 - (k : Int)) = (p : Int) := by omega
    rw [hpi]
    have HRT := Lib.hid (show (css.reverse.take (k + 1)).flatten = (css.reverse.take k).flatten ++ css[p]'hpc by
     rw [len_reverse_take HCL.out hlt, List.flatten_append]
     have e : d.procs.length - 1 - k = p := by omega
     simp only [e, List.flatten_cons, List.flatten_nil, List.append_nil])
    have HPK := Lib.hid hpk
    have hq2 := (css_cut HC2.out (HCH.out.ext hxr) p hpc).2.1
    have hq2b := (css_cut HC2.out HCH.out p hpc).2.1
    have hpl : (css[p]'hpc).length = 2 := HC2.out _ (List.getElem_mem _)
    obtain ⟨sp, hsp⟩ : ∃ sp, css[p]'hpc = d.procs[p].cells sp := by
     obtain ⟨sp, h1, -⟩ := HCV.out p hpc hp0
     exact ⟨sp, h1⟩
    have hspone : sp.oneCell' = true := by
     have := HCO.out
     rw [List.all_eq_true] at this
     refine this sp (List.mem_flatten.2 ⟨_, List.getElem_mem hpc, ?_⟩)
     rw [hsp]; simp
    rw [hsp] at hq2 hq2b hpl HRT
    have HQ2 := Lib.hid hq2
    have HQ2b := Lib.hid hq2b
    have HPL := Lib.hid hpl
    have HSPO := Lib.hid hspone
    have HROWR := Lib.hid hrow
    have HMR := Lib.hid hM
    have HXR := Lib.hid hxr
    have HBR := Lib.hid (HB3.out.ext hxr)
    clear hq2 hq2b hpl hspone hsp hrow hM hxr hpi hpk
    have hpk := HPK.out
    go_upto_region 10 with fail
    refine wp_region_held_drew (S := fun W => Blk W w.heap.size [sv, .slice (some ⟨b0, o0, Option.none⟩) d.procs.length c0, cv].toArray 26 ∧ Has W b0 (o0 + p * 2) (d.procs[p].cells sp)) (by kernel_rfl) ⟨HBR.out.drew, HQ2.out.drew⟩ (fun hHeld => ?_)
    have hxd : Ext wr wr.drew := Below.drew (Below.refl _ _)
    have HMd := Lib.hid (HMR.out.ext hxd)
    have HXd := Lib.hid (HXR.out.trans hxd)
    have HROWd := Lib.hid (show wr.drew.ownsRow w5.heap.size 38 2 (.slice a k cap) k (css.reverse.take k).flatten from HROWR.out)
    have hsd : wr.drew.heap.size = wr.heap.size := rfl
    generalize wr.drew = wd at *
    clear hxd
    try simp only [Act.put, Jd, Jc, Jb, Ja, Je, Jf]
    (refine Jt 0 (_) rfl (yif_load1 rfl fun _ _ => rfl) hHeld ?_; try simp only [Act.put, Jd, Jc, Jb, Ja, Je, Jf])
    (refine Jt 2 (_) rfl (yif_load1 rfl fun _ _ => rfl) hHeld ?_; try simp only [Act.put, Jd, Jc, Jb, Ja, Je, Jf])
    (refine Jt 3 (.slice (some ⟨b0, o0, Option.none⟩) d.procs.length c0) rfl (yif_load1 rfl (by intro W hW; have y1 := hW.1.has 1 _ rfl; rw [Nat.zero_add] at y1; clear hW; go_simp)) hHeld ?_; try simp only [Act.put, Jd, Jc, Jb, Ja, Je, Jf])
    (refine Jt 4 (_) rfl (yif_load1 rfl fun _ _ => rfl) hHeld ?_; try simp only [Act.put, Jd, Jc, Jb, Ja, Je, Jf])
    (refine Jt 5 (.pointer (some ⟨b0, o0 + p * 2, Option.none⟩)) rfl (yif_load1 rfl (by intro W hW; clear hW; go_simp; intro h; omega)) hHeld ?_; try simp only [Act.put, Jd, Jc, Jb, Ja, Je, Jf])
    (refine Jt 6 (.agg (d.procs[p].cells sp).toArray) rfl (yif_load rfl 38 _ rfl rfl (fun W hW => hW.2) agg_Proc rfl) hHeld ?_; try simp only [Act.put, Jd, Jc, Jb, Ja, Je, Jf])
    have zd := HMd.out.has 1 _ rfl
    rw [Nat.zero_add] at zd
    refine wpAnyH_ready (rs := [1, 7]) (by kernel_rfl) (by simp) ?_
    refine AllReadyH.cons rfl (fun K hK => ?_) (AllReadyH.cons rfl (fun K hK => ?_) AllReadyH.nil)
    ·go_simp
     refine hK.out _ _ hHeld (fun hHeld => ?_)
     clear hK K zd
     try simp only [Act.put, Jd, Jc, Jb, Ja, Je, Jf]
     refine wpAnyH_ready (rs := [7]) (by kernel_rfl) (by simp) ?_
     refine AllReadyH.cons rfl (fun K hK => ?_) AllReadyH.nil
     refine step_bs1 rfl _ _ rfl appProc rfl (cs := d.procs[p].cells sp) rfl rfl (by decide) ?_
     refine hK.out _ _ ⟨hHeld.1.ext (ext_alloc _ _), hHeld.2.ext (ext_alloc _ _)⟩ (fun hHeld => ?_)
     clear hK K
     try simp only [Act.put, Jd, Jc, Jb, Ja, Je, Jf]
     refine wpAnyH_ready (rs := [8]) (by kernel_rfl) (by simp) ?_
     refine AllReadyH.cons rfl (fun K hK => ?_) AllReadyH.nil
     have hbe := Blk.new wd (d.procs[p].cells sp).toArray 38
     have hse : wd.heap.size < (wd.alloc (.cells (d.procs[p].cells sp).toArray 38)).heap.size := by simp
     have hmb : (Value.slice a k cap = .slice Option.none 0 0) → 0 < 1 := fun _ => Nat.zero_lt_one
     refine step_app rfl _ _ _ rfl appProc (v := .slice a k cap) rfl (HROWd.out.alloc _) rfl hmb (by rw [Nat.one_mul]; exact HPL.out) (by first | exact news_of hbe.has | (have h9 := hbe.has; rw [hsd] at h9; exact news_of h9)) (by simp [HSPO.out]; rfl) (by omega) (by omega) ?_
     intro gA capA wA hrowA hgA hggA
     replace hgA : (wd.alloc (.cells (d.procs[p].cells sp).toArray 38)).grownBy wA (Value.slice a k cap).ownBlock := hgA
     have hrR := (HROWd.out.lt)
     have hxA := ext_alloc wd (.cells (d.procs[p].cells sp).toArray 38)
     have hMA := (HMd.out.ext hxA).grownO hgA (fun q hq => by have := hrR q hq; omega)
     have hXA := (HXd.out.trans hxA).grownO hgA (fun q hq => by have := hrR q hq; omega)
     have hgAl : gA ≠ w3.heap.size := by have := (hrowA.lt gA rfl).1; omega
     refine hK.out _ _ ⟨(hHeld.1).grownO hgA (fun q hq => by have := hrR q hq; omega), hXA.blkHas HQ2b.out⟩ (fun hHeld => ?_)
     clear hK K
     try simp only [Act.put, Jd, Jc, Jb, Ja, Je, Jf]
     (refine Jt 9 (_) rfl (yif_load1 rfl fun _ _ => rfl) hHeld ?_; try simp only [Act.put, Jd, Jc, Jb, Ja, Je, Jf])
     have zA := hMA.has 1 _ rfl
     have rA := hMA.frozen 1
     rw [Nat.zero_add] at zA
     refine wpAnyH_ready (rs := [10]) (by kernel_rfl) (by simp) ?_
     refine AllReadyH.cons rfl (fun K hK => ?_) AllReadyH.nil
     go_simp
     have hgC := gb_set wA w3.heap.size 1 (.slice (some ⟨gA, 0, Option.none⟩) (k + 1) capA)
     have hsC := hgC.size
     have hsA2 := hgA.size
     refine hK.out _ _ ⟨hHeld.1.grown hgC (by omega), (hXA.grown hgC (Nat.le_refl _)).blkHas HQ2b.out⟩ (fun hHeld => ?_)
     clear hK K
     try simp only [Act.put, Jd, Jc, Jb, Ja, Je, Jf]
     refine wpAnyH_done (by kernel_rfl) ?_ _
     go_wp2_with fail
     go_roundw
     case rel => exact ⟨k + 1, by omega, by omega, some ⟨gA, 0, Option.none⟩, capA, (by have q := hrowA.kept hgC (.inr (fun h => hgAl (by have h' : some gA = some w3.heap.size := h; injection h' with h'))); rw [HRT.out]; exact q), hMA.set 1 _, hXA.grown hgC (Nat.le_refl _), by omega⟩
     case measure => simp [intOf]; try omega
    ·refine step_bs1 rfl _ _ rfl appProc rfl (cs := d.procs[p].cells sp) rfl rfl (by decide) ?_
     refine hK.out _ _ ⟨hHeld.1.ext (ext_alloc _ _), hHeld.2.ext (ext_alloc _ _)⟩ (fun hHeld => ?_)
     clear hK K
     try simp only [Act.put, Jd, Jc, Jb, Ja, Je, Jf]
     have zd : (wd.alloc (.cells (d.procs[p].cells sp).toArray 38)).cell? ⟨w3.heap.size, 1, none⟩ = some (.slice a k cap) := by
      have := (HMd.out.ext (ext_alloc wd (.cells (d.procs[p].cells sp).toArray 38))).has 1 _ rfl
      rwa [Nat.zero_add] at this
     refine wpAnyH_ready (rs := [1]) (by kernel_rfl) (by simp) ?_
     refine AllReadyH.cons rfl (fun K hK => ?_) AllReadyH.nil
     go_simp
     refine hK.out _ _ hHeld (fun hHeld => ?_)
     clear hK K zd
     try simp only [Act.put, Jd, Jc, Jb, Ja, Je, Jf]
     refine wpAnyH_ready (rs := [8]) (by kernel_rfl) (by simp) ?_
     refine AllReadyH.cons rfl (fun K hK => ?_) AllReadyH.nil
     have hbe := Blk.new wd (d.procs[p].cells sp).toArray 38
     have hse : wd.heap.size < (wd.alloc (.cells (d.procs[p].cells sp).toArray 38)).heap.size := by simp
     have hmb : (Value.slice a k cap = .slice Option.none 0 0) → 0 < 1 := fun _ => Nat.zero_lt_one
     refine step_app rfl _ _ _ rfl appProc (v := .slice a k cap) rfl (HROWd.out.alloc _) rfl hmb (by rw [Nat.one_mul]; exact HPL.out) (by first | exact news_of hbe.has | (have h9 := hbe.has; rw [hsd] at h9; exact news_of h9)) (by simp [HSPO.out]; rfl) (by omega) (by omega) ?_
     intro gA capA wA hrowA hgA hggA
     replace hgA : (wd.alloc (.cells (d.procs[p].cells sp).toArray 38)).grownBy wA (Value.slice a k cap).ownBlock := hgA
     have hrR := (HROWd.out.lt)
     have hxA := ext_alloc wd (.cells (d.procs[p].cells sp).toArray 38)
     have hMA := (HMd.out.ext hxA).grownO hgA (fun q hq => by have := hrR q hq; omega)
     have hXA := (HXd.out.trans hxA).grownO hgA (fun q hq => by have := hrR q hq; omega)
     have hgAl : gA ≠ w3.heap.size := by have := (hrowA.lt gA rfl).1; omega
     refine hK.out _ _ ⟨(hHeld.1).grownO hgA (fun q hq => by have := hrR q hq; omega), hXA.blkHas HQ2b.out⟩ (fun hHeld => ?_)
     clear hK K
     try simp only [Act.put, Jd, Jc, Jb, Ja, Je, Jf]
     (refine Jt 9 (_) rfl (yif_load1 rfl fun _ _ => rfl) hHeld ?_; try simp only [Act.put, Jd, Jc, Jb, Ja, Je, Jf])
     have zA := hMA.has 1 _ rfl
     have rA := hMA.frozen 1
     rw [Nat.zero_add] at zA
     refine wpAnyH_ready (rs := [10]) (by kernel_rfl) (by simp) ?_
     refine AllReadyH.cons rfl (fun K hK => ?_) AllReadyH.nil
     go_simp
     have hgC := gb_set wA w3.heap.size 1 (.slice (some ⟨gA, 0, Option.none⟩) (k + 1) capA)
     have hsC := hgC.size
     have hsA2 := hgA.size
     refine hK.out _ _ ⟨hHeld.1.grown hgC (by omega), (hXA.grown hgC (Nat.le_refl _)).blkHas HQ2b.out⟩ (fun hHeld => ?_)
     clear hK K
     try simp only [Act.put, Jd, Jc, Jb, Ja, Je, Jf]
     refine wpAnyH_done (by kernel_rfl) ?_ _
     go_wp2_with fail
     go_roundw
     case rel => exact ⟨k + 1, by omega, by omega, some ⟨gA, 0, Option.none⟩, capA, (by have q := hrowA.kept hgC (.inr (fun h => hgAl (by have h' : some gA = some w3.heap.size := h; injection h' with h'))); rw [HRT.out]; exact q), hMA.set 1 _, hXA.grown hgC (Nat.le_refl _), by omega⟩
     case measure => simp [intOf]; try omega
   ·obtain rfl : k = d.procs.length := by omega
    have hpi : ((d.procs.length : Int) - 1 - ((d.procs.length : Nat) : Int)) = -1 := by omega
    rw [hpi]
    rw [List.take_of_length_le (by rw [List.length_reverse, HCL.out]; exact Nat.le_refl _)] at hrow
    have HXW := Lib.hid (HX3.out.trans hxr)
    have HT := Lib.hid (show ∀ W, Ext wr W → FlatV W (.agg #[sv, .slice a d.procs.length cap, cv]) (turn d) from fun W hx => by
     refine ⟨_, _, _, rfl, HSC.out.1.ext (HXW.out.trans hx), ?_, HSC.out.2.ext (HXW.out.trans hx)⟩
     refine Procs.ext (ownsRow_procsO hrow d.procs.reverse (by simp) (by simp [HCL.out]) (fun cs hc => HC2.out cs (List.mem_reverse.1 hc)) ?_) hx
     intro i h h'
     rw [List.getElem_reverse, List.getElem_reverse]
     have hl1 : i < css.length := by simpa using h
     have hl2 : i < d.procs.length := by simpa using h'
     have e : css.length - 1 - i = d.procs.length - 1 - i := by rw [HCL.out]
     simp only [e]
     exact (HCV.out (d.procs.length - 1 - i) (by rw [HCL.out]; omega) (by omega)).ext HXW.out)
    have HMR := Lib.hid hM
    have HBR := Lib.hid (HB3.out.ext hxr)
    have HCR : Hid (Calls Tryz.prog 23 _ wr fun r w' => r = .returned (.int .i64 (checkM d)) ∧ Ext wr w') := Lib.hid (Check_callsR d _ wr (HF.out.ext HXW.out) HOK.out)
    have HCD := Lib.hid (fun W (hx : Ext wr W) => LCheck_calls d _ W (HF.out.ext (HXW.out.trans hx)) HOK.out)
    have HCT := Lib.hid (fun W (hx : Ext wr W) => LCheck_calls (turn d) _ W (HT.out W hx) (turn_ok HOK.out))
    rw [turn_look HOK.out] at HCT
    clear hrow hxr hM hpi hk hlt
    by_cases hck : checkM d = 0
    ·obtain ⟨hD1, hD2, hD3⟩ := turn_drvD HOK.out hck
     have HDD := Lib.hid (fun W (hx : Ext wr W) => Drivers_calls d _ W (HF.out.ext (HXW.out.trans hx)) HOK.out)
     have HDT := Lib.hid (fun W (hx : Ext wr W) => Drivers_calls (turn d) _ W (HT.out W hx) (turn_ok HOK.out))
     have hlen : (drvD d).2.length ≤ 67108864 ∧ ∀ x ∈ (drvD d).2, -1 ≤ x ∧ x < d.procs.length := by
      rcases drvD_cases d with ⟨e, hd, he⟩ | ⟨_, by', hd, hdm⟩
      ·rw [hd]; exact ⟨Nat.zero_le _, fun x h => by cases h⟩
      ·rw [hd]
       have hl := drvD_len HOK.out hck hdm
       have hn := nBits_le HOK.out hck
       exact ⟨by have := hl.1; show by'.length ≤ _; omega, hl.2⟩
     rw [hck] at HCR
     rw [hD1] at HDT
     obtain ⟨oA, hoA⟩ : ∃ o, (drvD d).2 = o := ⟨_, rfl⟩
     obtain ⟨oB, hoB⟩ : ∃ o, (drvD (turn d)).2 = o := ⟨_, rfl⟩
     obtain ⟨eD, heD⟩ : ∃ e, (drvD d).1 = e := ⟨_, rfl⟩
     obtain ⟨eL, heL⟩ : ∃ e, (lookM d).1 = e := ⟨_, rfl⟩
     rw [hoA, heD] at HDD
     rw [hoB, heD] at HDT
     rw [heL] at HCD HCT
     rw [hoA, hoB] at hD2 hD3
     rw [hoA] at hlen
     have HG2 := Lib.hid hD2
     have HG3 := Lib.hid hD3
     have HRG := Lib.hid hlen.2
     have hnb := hlen.1
     clear hD1 hD2 hD3 hlen hoA hoB heD heL hck
     go_upto_region 15 with (first | ((with_reducible show wpList _ _ _ (⟨_, Op.load 26 _, _, _, _, _⟩ :: _) _ _); refine wpList_load_has rfl 26 _ rfl rfl (HBR.out.has) agg_Flat rfl ?_) | (go_at_call 23; refine HCR.out.mono ?_; rintro r w6 ⟨rfl, hx6⟩; have HX6 := Lib.hid hx6; have HB6 := Lib.hid (HBR.out.ext hx6); clear hx6) | ((with_reducible show wpList _ _ _ (⟨_, Op.load 26 _, _, _, _, _⟩ :: _) _ _); refine wpList_load_has rfl 26 _ rfl rfl (HB6.out.has) agg_Flat rfl ?_) | (go_at_call 11; refine (HDD.out _ HX6.out).mono ?_; rintro r w7 ⟨u7, rfl, hr7, hx7⟩; have HX7 := Lib.hid (HX6.out.trans hx7); have HM7 := Lib.hid (HMR.out.ext HX7.out); clear HDD hx7) | ((with_reducible show wpList _ _ _ (⟨_, Op.load 26 _, _, _, _, _⟩ :: _) _ _); refine wpList_load_has rfl 26 _ rfl rfl (HM7.out.has) agg_Flat rfl ?_) | (go_at_call 11; refine (HDT.out _ HX7.out).mono ?_; rintro r w8 ⟨u8, rfl, hr8, hx8⟩))
     have HX8 := Lib.hid (HX7.out.trans hx8)
     have HM8 := Lib.hid (HMR.out.ext HX8.out)
     have HB8 := Lib.hid (HBR.out.ext HX8.out)
     have HRA := Lib.hid (hr7.ext hx8)
     have HRB := Lib.hid hr8
     obtain ⟨aA, cA, hu, -⟩ := hr7.open
     subst hu
     obtain ⟨aB, cB, hu, -⟩ := hr8.open
     rw [HG2.out] at hu
     subst hu
     clear hr7 hr8 hx8 HB6 HM7 HX6 HX7 HDT HCR
     refine wp_region_held_drew (S := fun W => Ext w8 W) (by kernel_rfl) (Below.drew (Below.refl _ _)) (fun hHeld => ?_)
     generalize w8.drew = wd at *
     try simp only [Act.put, Jd, Jc, Jb, Ja, Je, Jf]
     (refine Jt 0 (.agg #[sv, .slice a d.procs.length cap, cv]) rfl (yif_load rfl 26 _ rfl rfl (fun W hW => (HM8.out.ext hW).has) agg_Flat rfl) hHeld ?_; try simp only [Act.put, Jd, Jc, Jb, Ja, Je, Jf])
     (refine Jt 2 (.agg #[sv, .slice a0 d.procs.length c0, cv]) rfl (yif_load rfl 26 _ rfl rfl (fun W hW => (HB8.out.ext hW).has) agg_Flat rfl) hHeld ?_; try simp only [Act.put, Jd, Jc, Jb, Ja, Je, Jf])
     refine wpAnyH_ready (rs := [1]) (by kernel_rfl) (by simp) ?_
     refine AllReadyH.cons rfl (fun K hK => ?_) AllReadyH.nil
     go_simp
     refine (HCT.out _ (HX8.out.trans hHeld)).mono ?_
     rintro r w9 ⟨rfl, hx9⟩
     refine hK.out _ _ (hHeld.trans hx9) (fun hHeld => ?_)
     clear hK K hx9
     try simp only [Act.put, Jd, Jc, Jb, Ja, Je, Jf]
     refine wpAnyH_ready (rs := [3]) (by kernel_rfl) (by simp) ?_
     refine AllReadyH.cons rfl (fun K hK => ?_) AllReadyH.nil
     go_simp
     refine (HCD.out _ (HX8.out.trans hHeld)).mono ?_
     rintro r w10 ⟨rfl, hx10⟩
     refine hK.out _ _ (hHeld.trans hx10) (fun hHeld => ?_)
     clear hK K hx10
     try simp only [Act.put, Jd, Jc, Jb, Ja, Je, Jf]
     obtain ⟨be, hbe⟩ : ∃ be, (eL != eL) = be := ⟨_, rfl⟩
     have hbe' : (eL != eL) = false := by simp
     obtain rfl : be = false := by rw [← hbe, hbe']
     clear hbe
     have hbf : (eD != eD) = false := by simp
     (refine Jt 4 (.bool false) rfl (yif_load1 rfl (by intro W hW; clear hW; go_simp)) hHeld ?_; try simp only [Act.put, Jd, Jc, Jb, Ja, Je, Jf])
     (refine Jt 5 (_) rfl (yif_load1 rfl fun _ _ => rfl) hHeld ?_; try simp only [Act.put, Jd, Jc, Jb, Ja, Je, Jf])
     (refine Jt 6 (_) rfl (yif_load1 rfl fun _ _ => rfl) hHeld ?_; try simp only [Act.put, Jd, Jc, Jb, Ja, Je, Jf])
     (refine Jt 7 (_) rfl (yif_load1 rfl fun _ _ => rfl) hHeld ?_; try simp only [Act.put, Jd, Jc, Jb, Ja, Je, Jf])
     (refine Jt 8 (.bool false) rfl (yif_load1 rfl (by intro W hW; clear hW; go_simp)) hHeld ?_; try simp only [Act.put, Jd, Jc, Jb, Ja, Je, Jf])
     (refine Jt 9 (.bool false) rfl (yif_load1 rfl (by intro W hW; clear hW; go_simp)) hHeld ?_; try simp only [Act.put, Jd, Jc, Jb, Ja, Je, Jf])
     (refine Jt 10 (_) rfl (yif_load1 rfl fun _ _ => rfl) hHeld ?_; try simp only [Act.put, Jd, Jc, Jb, Ja, Je, Jf])
     (refine Jt 11 (_) rfl (yif_load1 rfl fun _ _ => rfl) hHeld ?_; try simp only [Act.put, Jd, Jc, Jb, Ja, Je, Jf])
     (refine Jt 12 (.int .i64 (oA.length : Int)) rfl (yif_load1 rfl (by intro W hW; clear hW; go_simp)) hHeld ?_; try simp only [Act.put, Jd, Jc, Jb, Ja, Je, Jf])
     (refine Jt 13 (_) rfl (yif_load1 rfl fun _ _ => rfl) hHeld ?_; try simp only [Act.put, Jd, Jc, Jb, Ja, Je, Jf])
     (refine Jt 14 (.int .i64 (oA.length : Int)) rfl (yif_load1 rfl (by intro W hW; clear hW; go_simp)) hHeld ?_; try simp only [Act.put, Jd, Jc, Jb, Ja, Je, Jf])
     (refine Jt 15 (.bool false) rfl (yif_load1 rfl (by intro W hW; clear hW; go_simp)) hHeld ?_; try simp only [Act.put, Jd, Jc, Jb, Ja, Je, Jf])
     (refine Jt 16 (.bool false) rfl (yif_load1 rfl (by intro W hW; clear hW; go_simp)) hHeld ?_; try simp only [Act.put, Jd, Jc, Jb, Ja, Je, Jf])
     refine wpAnyH_done (by kernel_rfl) ?_ _
     clear hbe' hbf HCD HCT
     have HXY := Lib.hid (HXW.out.trans HX8.out)
     have HH10 := Lib.hid hHeld
     clear hHeld
     go_wp2_with fail
     go_loopw [11] (fun i w2' => ∃ k : Nat, k ≤ oA.length ∧ i = .int .i64 (k : Int) ∧ Ext w10 w2') (fun i _ => oA.length - (intOf i).toNat)
     case atStart => exact ⟨0, Nat.zero_le _, rfl, Below.refl _ _⟩
     case round =>
      obtain ⟨k, hk, rfl, hxk⟩ := hrel
      have HXK := Lib.hid hxk
      clear hxk
      by_cases hlt : k < oA.length
      ·obtain ⟨gA, cA', eA, hgA, hcA⟩ := HRA.out.open1 (by omega)
       injection eA with eA1 eA2 eA3
       subst eA1
       obtain ⟨gB, cB', eB, hgB, hcB⟩ := HRB.out.open1 (by rw [HG2.out]; omega)
       injection eB with eB1 eB2 eB3
       subst eB1
       have hkB : k < oB.length := by rw [HG2.out]; exact hlt
       have z1 := Has.one1 (hcA k _ (List.getElem?_eq_getElem hlt)) (HH10.out.trans HXK.out)
       have z2 := Has.one1 (hcB k _ (List.getElem?_eq_getElem hkB)) (HH10.out.trans HXK.out)
       have hd3 := HG3.out k _ _ (List.getElem?_eq_getElem hlt) (List.getElem?_eq_getElem hkB)
       have hrg := HRG.out _ (List.getElem_mem hlt)
       generalize oA[k] = x at *
       generalize oB[k] = y at *
       clear hcA hcB hgA hgB eA2 eA3 eB2 eB3 hkB
       rcases hd3 with ⟨q1, q2⟩ | ⟨q1, q2⟩
       ·subst q2
        have hb : (y != y) = false := by simp
        have hb1 : decide (y < 0) = true := decide_eq_true q1
        have hb2 : decide (0 ≤ y) = false := decide_eq_false (by omega)
        go_upto_region 20 with fail
        go_quiet (fail)
        go_wp2_with fail
        go_roundw
        case rel => exact ⟨k + 1, hlt, by go_num, HXK.out.trans ⟨rfl, rfl, rfl, Nat.le_refl _, fun _ _ => rfl⟩⟩
        case measure => simp [intOf]; omega
       ·have hb : (y != (d.procs.length : Int) - 1 - x) = false := by rw [bne_eq_false_iff_eq]; exact q2
        have hb1 : decide (x < 0) = false := decide_eq_false (by omega)
        have hb2 : decide (0 ≤ x) = true := decide_eq_true q1
        clear q2
        go_upto_region 20 with fail
        go_quiet (fail)
        go_wp2_with fail
        go_roundw
        case rel => exact ⟨k + 1, hlt, by go_num, HXK.out.trans ⟨rfl, rfl, rfl, Nat.le_refl _, fun _ _ => rfl⟩⟩
        case measure => simp [intOf]; omega
      ·obtain rfl : k = oA.length := by omega
       go_wp2_with fail
       go_ret
       exact ⟨rfl, HXY.out.trans (HH10.out.trans HXK.out)⟩
    ·have hl1 : (lookM d).1 = 1 := by rw [lookM_err (show drvD d = (1, []) by unfold drvD; rw [if_neg hck]) (by decide)]
     rw [hl1] at HCD HCT
     obtain ⟨q, hq⟩ : ∃ q, checkM d = q := ⟨_, rfl⟩
     rw [hq] at HCR hck
     have hbq : (q != 0) = true := by rw [bne_iff_ne]; exact hck
     clear hl1 hq hck
     go_wp2_with (first | ((with_reducible show wpList _ _ _ (⟨_, Op.load 26 _, _, _, _, _⟩ :: _) _ _); refine wpList_load_has rfl 26 _ rfl rfl (HBR.out.has) agg_Flat rfl ?_) | (go_at_call 23; refine HCR.out.mono ?_; rintro r w6 ⟨rfl, hx6⟩; have HX6 := Lib.hid hx6; have HB6 := Lib.hid (HBR.out.ext hx6); clear hx6) | ((with_reducible show wpList _ _ _ (⟨_, Op.load 26 _, _, _, _, _⟩ :: _) _ _); refine wpList_load_has rfl 26 _ rfl rfl (HB6.out.has) agg_Flat rfl ?_) | (go_at_call 14; refine (HCD.out _ HX6.out).mono ?_; rintro r w7 ⟨rfl, hx7⟩; have HX7 := Lib.hid (HX6.out.trans hx7); have HM7 := Lib.hid (HMR.out.ext HX7.out); clear HCD hx7) | ((with_reducible show wpList _ _ _ (⟨_, Op.load 26 _, _, _, _, _⟩ :: _) _ _); refine wpList_load_has rfl 26 _ rfl rfl (HM7.out.has) agg_Flat rfl ?_) | (go_at_call 14; refine (HCT.out _ HX7.out).mono ?_; rintro r w8 ⟨rfl, hx8⟩))
     go_ret
     exact ⟨rfl, HXW.out.trans (HX7.out.trans hx8)⟩
end Go.Proofs.YthpemngachlehaaGreat
