/- Laws and walks that a claim of this seat leans on: Spoilt. -/
import Derived.Test.YthpemngachlehaaGreatZ15
import Derived.Test.YthpemngachlehaaGreatZLive3
import Derived.Test.YthpemngachlehaaGreatZ12
set_option linter.all false
namespace Go.Proofs.YthpemngachlehaaGreat
open Go.RowKit

set_option maxRecDepth 100000 in
set_option maxHeartbeats 8000000 in
theorem LintSpoilt_calls (d : Flat) (v : Value) (k : Int) (w : World) (h : FlatV w v d) (hok : d.ok) :
    Calls Tryz.prog 8 #[v, .int .i64 k] w fun r w' => r = .returned (.bool true) ∧ Ext w w' := by
  have HF := Lib.hid h
  obtain ⟨sv, pv, cv, rfl, hS, hP, hC⟩ := h
  have HX := Lib.hid (ext_alloc w (.cells [sv, pv, cv].toArray 26))
  have HB := Lib.hid (Blk.new w [sv, pv, cv].toArray 26)
  have hln := hok.procs
  obtain ⟨a0, b0, o0, c0, rfl, hc1, hc2, ha, hr⟩ := hP.open
  have HA := Lib.hid ha
  have HR := Lib.hid hr
  have HONE := Lib.hid (show [sv, .slice a0 d.procs.length c0, cv].all (·.oneCell') = true by simp only [List.all_cons, hS.one, hC.one, List.all_nil, Bool.and_true]; rfl)
  have HSC := Lib.hid (show Sigs w sv d.signals ∧ Chks w cv d.checks from ⟨hS, hC⟩)
  have HCSS := Lib.hid (procs_css d.procs b0 o0 hr)
  clear hS hP hC ha hr
  go_enter Tryz.func8, Tryz.ntmps8
  go_upto_region 2 with (first | (go_at_call 9; refine (live_calls _).mono ?_; rintro r w2 ⟨rfl, hx2⟩))
  have HX2 := Lib.hid (HX.out.trans hx2)
  have HB2 := Lib.hid (HB.out.ext hx2)
  generalize w.alloc _ = w1 at *
  clear hx2 HB HX
  have HFW : Hid (Calls Tryz.prog 10 _ w2 fun r w' => r = .returned (.bool (few12 d)) ∧ Ext w2 w') := Lib.hid (few12_calls d _ w2 (HF.out.ext HX2.out) hok.nodes)
  have HCK := Lib.hid (fun W (hx : Ext w2 W) => LCheck_calls d _ W (HF.out.ext (HX2.out.trans hx)) hok)
  obtain ⟨fw, hfw⟩ : ∃ fw, few12 d = fw := ⟨_, rfl⟩
  rw [hfw] at HFW
  have HFE := Lib.hid hfw
  have HOK := Lib.hid hok
  clear hfw hok
  cases fw
  · clear HCK
    go_wp2_with (first | ((with_reducible show wpList _ _ _ ({ dst := _, op := Op.load 26 _, type := _, pos := _, after := _, guard := _ } :: _) _ _); refine wpList_load_has rfl 26 _ rfl rfl (HB2.out.has) agg_Flat rfl ?_) | (go_at_call 10; refine HFW.out.mono ?_; rintro r w3 ⟨rfl, hx3⟩))
    go_ret
    exact ⟨rfl, HX2.out.trans hx3⟩
  · by_cases hn0 : d.procs.length = 0
    · have hb0 : (((d.procs.length : Nat) : Int) == 0) = true := by rw [beq_iff_eq]; omega
      have HN0 := Lib.hid hn0
      clear HCK hn0 hc1 hln
      go_wp2_with (first | ((with_reducible show wpList _ _ _ ({ dst := _, op := Op.load 26 _, type := _, pos := _, after := _, guard := _ } :: _) _ _); refine wpList_load_has rfl 26 _ rfl rfl (HB2.out.has) agg_Flat rfl ?_) | (go_at_call 10; refine HFW.out.mono ?_; rintro r w3 ⟨rfl, hx3⟩; have y1 := (HB2.out.ext hx3).has 1 _ rfl; rw [Nat.zero_add] at y1))
      go_ret
      exact ⟨rfl, HX2.out.trans hx3⟩
    · have hb0 : (((d.procs.length : Nat) : Int) == 0) = false := by rw [beq_eq_false_iff_ne]; omega
      by_cases hl : (lookM d).1 = 0
      · rw [hl] at HCK
        have HL := Lib.hid hl
        have hck := (lookM_zero HOK.out hl).1
        have HCKZ := Lib.hid hck
        obtain ⟨m, hm, hm2⟩ := and16 k
        have hp0 : m % d.procs.length < d.procs.length := Nat.mod_lt _ (by omega)
        have hpm : ((m : Int) % (d.procs.length : Int)) = ((m % d.procs.length : Nat) : Int) := by simp
        generalize m % d.procs.length = p at *
        clear hl hck
        go_upto_region 5 with (first | ((with_reducible show wpList _ _ _ ({ dst := _, op := Op.load 26 _, type := _, pos := _, after := _, guard := _ } :: _) _ _); refine wpList_load_has rfl 26 _ rfl rfl (HB2.out.has) agg_Flat rfl ?_) | (go_at_call 10; refine HFW.out.mono ?_; rintro r w3 ⟨rfl, hx3⟩; have HB3 := Lib.hid (HB2.out.ext hx3); have y1 := HB3.out.has 1 _ rfl; rw [Nat.zero_add] at y1) | ((with_reducible show wpList _ _ _ ({ dst := _, op := Op.load 26 _, type := _, pos := _, after := _, guard := _ } :: _) _ _); refine wpList_load_has rfl 26 _ rfl rfl (HB3.out.has) agg_Flat rfl ?_) | (go_at_call 14; refine (HCK.out _ hx3).mono ?_; rintro r w4 ⟨rfl, hx4⟩; have HB4 := Lib.hid (HB3.out.ext hx4); have y2 := HB4.out.has 1 _ rfl; rw [Nat.zero_add] at y2))
        have HX4 := Lib.hid (HX2.out.trans (hx3.trans hx4))
        have HWR := Lib.hid (Writes_ok d _ w4 (HF.out.ext HX4.out) HOK.out HCKZ.out hp0)
        have HWN := Lib.hid (fun h => spoilt HOK.out HFE.out HL.out hp0 h)
        obtain ⟨ws, hws⟩ : ∃ ws, writesM d (p : Int) = ws := ⟨_, rfl⟩
        rw [hws] at HWR HWN
        rw [hpm]
        clear hws hm hpm hm2 y1 y2 HB3 HB2 HX2 hx3 hx4 HCK HFW
        go_upto_region 6 with (first | ((with_reducible show wpList _ _ _ ({ dst := _, op := Op.load 26 _, type := _, pos := _, after := _, guard := _ } :: _) _ _); refine wpList_load_has rfl 26 _ rfl rfl (HB4.out.has) agg_Flat rfl ?_) | (go_at_call 24; refine HWR.out.mono ?_; rintro r w5 ⟨u5, rfl, hr5, hx5⟩))
        obtain ⟨au, cu, hu, -⟩ := hr5.open
        subst hu
        have HX5 := Lib.hid (HX4.out.trans hx5)
        have HB5 := Lib.hid (HB4.out.ext hx5)
        clear hr5 hx5 HWR HB4 HX4
        by_cases hw0 : ws = []
        · subst hw0
          go_wp2_with fail
          go_ret
          exact ⟨rfl, HX5.out⟩
        · have hwl : ((((ws.length : Nat) : Int)) == 0) = false := by
            rw [beq_eq_false_iff_ne]; intro h; exact hw0 (List.eq_nil_of_length_eq_zero (by omega))
          obtain ⟨s1, s2, s3, s4⟩ := HWN.out hw0
          have HS1 := Lib.hid s1
          have HS2 := Lib.hid s2
          have HS3 := Lib.hid s3
          have HS4 := Lib.hid s4
          clear hw0 s1 s2 s3 s4 HWN
          go_upto_region 8 with fail
          obtain ⟨css, hcl, hc2l, hcone, hchas, hcv⟩ := HCSS.out
          have HCL := Lib.hid hcl
          have HC2 := Lib.hid hc2l
          have HCO := Lib.hid hcone
          have HCV := Lib.hid hcv
          obtain rfl := HA.out (by omega)
          have HCH := Lib.hid (hchas.ext HX5.out)
          have hfl := flat2 hc2l
          rw [hcl] at hfl
          have HFL := Lib.hid hfl
          clear hcl hc2l hcone hchas hcv HCSS hfl hwl
          have hx6 := ext_alloc w5 (.cells [sv, .slice (some ⟨b0, o0, Option.none⟩) d.procs.length c0, cv].toArray 26)
          have hb6 := Blk.new w5 [sv, .slice (some ⟨b0, o0, Option.none⟩) d.procs.length c0, cv].toArray 26
          have hs6 : w5.heap.size < (w5.alloc (.cells [sv, .slice (some ⟨b0, o0, Option.none⟩) d.procs.length c0, cv].toArray 26)).heap.size := by simp
          have hs5 : w.heap.size < w5.heap.size := HB5.out.lt
          go_upto_region 9 with (first | ((with_reducible show wpList _ _ _ ({ dst := _, op := Op.load 26 _, type := _, pos := _, after := _, guard := _ } :: _) _ _); refine wpList_load_has rfl 26 _ rfl rfl (HB5.out.has) agg_Flat rfl ?_) | ((with_reducible show wpList _ _ _ ({ dst := _, op := Op.store 26 _ _, type := _, pos := _, after := _, guard := _ } :: _) _ _); refine wpList_store_new rfl 26 _ _ rfl rfl (by first | rfl | simp) rfl agg_Flat (rfl) rfl (HONE.out) ?_))
          generalize w5.alloc _ = w6 at *
          have HB6 := Lib.hid (HB5.out.ext hx6)
          have HM6 := Lib.hid hb6
          have HX6 := Lib.hid hx6
          have HCH6 := Lib.hid (HCH.out.ext hx6)
          clear hx6 hb6
          go_wp2_with (first | ((with_reducible show wpList _ _ _ ({ dst := _, op := Op.buildSlice _ _ _, type := _, pos := _, after := _, guard := _ } :: _) _ _); refine wpList_bs0 rfl _ rfl appProc ?_; refine Hid.out ?_))
          refine Lib.hid ?_
          have hx7 := ext_alloc w6 (.cells #[] 38)
          have hown7 := World.ownsRow_made (size := 2) (base := w6.heap.size) (e := 38) w6 #[] 0 (Nat.le_refl _) (by decide) rfl
          have hs7 : w6.heap.size < (w6.alloc (.cells #[] 38)).heap.size := by simp
          generalize w6.alloc _ = w7 at *
          have y7 := (HB6.out.ext hx7).has 1 _ rfl
          rw [Nat.zero_add] at y7
          have HM7 := Lib.hid (HM6.out.ext hx7)
          have HB7 := Lib.hid (HB6.out.ext hx7)
          have HX7 := Lib.hid (HX6.out.trans hx7)
          have HCH7 := Lib.hid (HCH6.out.ext hx7)
          go_wp2_with (first | ((with_reducible show wpList _ _ _ ({ dst := _, op := Op.call { callee := .builtin .append, args := _, argTypes := _ }, type := _, pos := _, after := _, guard := _ } :: _) _ _); refine Hid.out ?_))
          refine Lib.hid ?_
          have hm7 : (Value.slice (some ⟨w6.heap.size, 0, Option.none⟩) 0 0 = .slice Option.none 0 0) → 0 < d.procs.length := by intro h; cases h
          have hn7 : 0 + d.procs.length ≤ 16777216 := by omega
          have hbs7 : w6.heap.size ≤ w7.heap.size := by omega
          refine wpList_app rfl _ _ _ rfl appProc (v := .slice (some ⟨w6.heap.size, 0, Option.none⟩) 0 0) rfl hown7 rfl hm7 HFL.out (news_of HCH7.out) HCO.out hn7 hbs7 ?_
          intro g9 cap9 w8 hrow8 hg8 hgg8
          rw [Nat.zero_add, List.nil_append] at hrow8
          replace hg8 : w7.grownBy w8 (some w6.heap.size) := hg8
          have hgl8 : w6.heap.size ≤ g9 := by
            rcases hgg8 with h | h
            · have h' : some w6.heap.size = some g9 := h
              injection h' with h'; omega
            · omega
          have hgt8 : g9 < w8.heap.size := (hrow8.lt g9 rfl).2
          have hs8 := hg8.size
          have HM8 := Lib.hid (HM7.out.grown hg8 (by omega))
          have HB8 := Lib.hid (HB7.out.grown hg8 (by omega))
          have HX8 := Lib.hid (HX7.out.grown hg8 (by omega))
          have z1 := HM8.out.has 1 _ rfl
          have r1 := HM8.out.frozen 1
          rw [Nat.zero_add] at z1
          have HROW8 := Lib.hid hrow8
          clear hown7 hgg8 hg8 y7 hx7 hs7 hm7 hn7 hbs7 hrow8
          go_upto_region 10 with fail
          have hm9 : Blk _ w5.heap.size [sv, .slice (some ⟨g9, 0, Option.none⟩) d.procs.length cap9, cv].toArray 26 := HM8.out.set 1 (.slice (some ⟨g9, 0, Option.none⟩) d.procs.length cap9)
          have hg9 := gb_set w8 w5.heap.size 1 (.slice (some ⟨g9, 0, Option.none⟩) d.procs.length cap9)
          have HM9 := Lib.hid hm9
          have HB9 := Lib.hid (HB8.out.grown hg9 (by omega))
          have HX9 := Lib.hid (HX8.out.grown hg9 (by omega))
          have HROW9 := Lib.hid (HROW8.out.kept hg9 (.inr (fun h => by have h' : some g9 = some w5.heap.size := h; injection h' with h'; omega)))
          have hs9 := hg9.size
          clear hg9 z1 r1 hm9
          generalize w8.setCell _ _ = w9 at *
          clear HM8 HB8 HX8 HM7 HB7 HX7 HCH7 HM6 HB6 HX6 HCH6 HROW8
          have HCH9 := Lib.hid (HCH.out.ext HX9.out)
          obtain ⟨hq1, hq2, hq3⟩ := css_cut HC2.out HCH9.out p (by rw [HCL.out]; exact hp0)
          have HQ1 := Lib.hid hq1
          have HQ2 := Lib.hid hq2
          have HQ3 := Lib.hid hq3
          have hpl : (css[p]'(by rw [HCL.out]; exact hp0)).length = 2 := HC2.out _ (List.getElem_mem _)
          obtain ⟨sp, hsp⟩ : ∃ sp, css[p]'(by rw [HCL.out]; exact hp0) = d.procs[p].cells sp := by
            obtain ⟨sp, h1, -⟩ := HCV.out p (by rw [HCL.out]; exact hp0) hp0
            exact ⟨sp, h1⟩
          rw [hsp] at HQ2 hpl
          have HQ2b := Lib.hid (show Has w5 b0 (o0 + p * 2) (d.procs[p].cells sp) by
            have := (css_cut HC2.out HCH.out p (by rw [HCL.out]; exact hp0)).2.1
            rwa [hsp] at this)
          have HSP := Lib.hid hsp
          clear hq1 hq2 hq3 hsp
          have hspone : sp.oneCell' = true := by
            have := HCO.out
            rw [List.all_eq_true] at this
            refine this sp (List.mem_flatten.2 ⟨_, List.getElem_mem (show p < css.length by rw [HCL.out]; exact hp0), ?_⟩)
            rw [HSP.out]; simp
          have HSPO := Lib.hid hspone
          clear hspone
          go_cut [54] from 54 to 62 (fun _ wx => ∃ gA capA, wx.ownsRow w6.heap.size 38 2 (.slice (some ⟨gA, 0, Option.none⟩) (d.procs.length + 1) capA) (d.procs.length + 1) (css.flatten ++ d.procs[p].cells sp) ∧ Blk wx w5.heap.size [sv, .slice (some ⟨gA, 0, Option.none⟩) (d.procs.length + 1) capA, cv].toArray 26 ∧ Blk wx w.heap.size [sv, .slice (some ⟨b0, o0, Option.none⟩) d.procs.length c0, cv].toArray 26 ∧ Ext w5 wx ∧ gA ≠ w5.heap.size)
          case first =>
            refine wp_region_held_drew (S := fun W => Blk W w.heap.size [sv, .slice (some ⟨b0, o0, Option.none⟩) d.procs.length c0, cv].toArray 26 ∧ Has W b0 (o0 + p * 2) (d.procs[p].cells sp)) (by kernel_rfl) ⟨HB9.out.drew, HQ2.out.drew⟩ (fun hHeld => ?_)
            have hxd : Ext w9 w9.drew := Below.drew (Below.refl _ _)
            have HMd := Lib.hid (HM9.out.ext hxd)
            have HXd := Lib.hid (HX9.out.trans hxd)
            have HROWd := Lib.hid (show w9.drew.ownsRow w6.heap.size 38 2 (.slice (some ⟨g9, 0, Option.none⟩) d.procs.length cap9) d.procs.length css.flatten from HROW9.out)
            have hsd : w9.drew.heap.size = w9.heap.size := rfl
            generalize w9.drew = wd at *
            clear hxd
            try simp only [Act.put, List.getElem_toArray, List.getElem_cons_succ, List.getElem_cons_zero, List.setIfInBounds_toArray, List.set_cons_zero, List.set_cons_succ]
            (refine wpAnyH_take (i := 0) (v := _) rfl (by kernel_rfl) (by kernel_rfl) (by kernel_rfl) (fun _ _ _ h => h) (yif_load1 rfl fun _ _ => rfl) hHeld ?_; try simp only [Act.put, List.getElem_toArray, List.getElem_cons_succ, List.getElem_cons_zero, List.setIfInBounds_toArray, List.set_cons_zero, List.set_cons_succ])
            (refine wpAnyH_take (i := 2) (v := _) rfl (by kernel_rfl) (by kernel_rfl) (by kernel_rfl) (fun _ _ _ h => h) (yif_load1 rfl fun _ _ => rfl) hHeld ?_; try simp only [Act.put, List.getElem_toArray, List.getElem_cons_succ, List.getElem_cons_zero, List.setIfInBounds_toArray, List.set_cons_zero, List.set_cons_succ])
            (refine wpAnyH_take (i := 3) (v := .slice (some ⟨b0, o0, Option.none⟩) d.procs.length c0) rfl (by kernel_rfl) (by kernel_rfl) (by kernel_rfl) (fun _ _ _ h => h) (yif_load1 rfl (by intro W hW; have y1 := hW.1.has 1 _ rfl; rw [Nat.zero_add] at y1; clear hW; go_simp)) hHeld ?_; try simp only [Act.put, List.getElem_toArray, List.getElem_cons_succ, List.getElem_cons_zero, List.setIfInBounds_toArray, List.set_cons_zero, List.set_cons_succ])
            (refine wpAnyH_take (i := 4) (v := _) rfl (by kernel_rfl) (by kernel_rfl) (by kernel_rfl) (fun _ _ _ h => h) (yif_load1 rfl fun _ _ => rfl) hHeld ?_; try simp only [Act.put, List.getElem_toArray, List.getElem_cons_succ, List.getElem_cons_zero, List.setIfInBounds_toArray, List.set_cons_zero, List.set_cons_succ])
            (refine wpAnyH_take (i := 5) (v := .pointer (some ⟨b0, o0 + p * 2, Option.none⟩)) rfl (by kernel_rfl) (by kernel_rfl) (by kernel_rfl) (fun _ _ _ h => h) (yif_load1 rfl (by intro W hW; clear hW; go_simp)) hHeld ?_; try simp only [Act.put, List.getElem_toArray, List.getElem_cons_succ, List.getElem_cons_zero, List.setIfInBounds_toArray, List.set_cons_zero, List.set_cons_succ])
            (refine wpAnyH_take (i := 6) (v := .agg (d.procs[p].cells sp).toArray) rfl (by kernel_rfl) (by kernel_rfl) (by kernel_rfl) (fun _ _ _ h => h) (yif_load rfl 38 _ rfl rfl (fun W hW => hW.2) agg_Proc rfl) hHeld ?_; try simp only [Act.put, List.getElem_toArray, List.getElem_cons_succ, List.getElem_cons_zero, List.setIfInBounds_toArray, List.set_cons_zero, List.set_cons_succ])
            have zd := HMd.out.has 1 _ rfl
            rw [Nat.zero_add] at zd
            refine wpAnyH_ready (rs := [1, 7]) (by kernel_rfl) (by simp) ?_
            refine AllReadyH.cons rfl (fun K hK => ?_) (AllReadyH.cons rfl (fun K hK => ?_) AllReadyH.nil)
            · go_simp
              refine hK.out _ _ hHeld (fun hHeld => ?_)
              clear hK K zd
              try simp only [Act.put, List.getElem_toArray, List.getElem_cons_succ, List.getElem_cons_zero, List.setIfInBounds_toArray, List.set_cons_zero, List.set_cons_succ]
              refine wpAnyH_ready (rs := [7]) (by kernel_rfl) (by simp) ?_
              refine AllReadyH.cons rfl (fun K hK => ?_) AllReadyH.nil
              refine step_bs1 rfl _ _ rfl appProc rfl (cs := d.procs[p].cells sp) rfl rfl (by decide) ?_
              refine hK.out _ _ ⟨hHeld.1.ext (ext_alloc _ _), hHeld.2.ext (ext_alloc _ _)⟩ (fun hHeld => ?_)
              clear hK K
              try simp only [Act.put, List.getElem_toArray, List.getElem_cons_succ, List.getElem_cons_zero, List.setIfInBounds_toArray, List.set_cons_zero, List.set_cons_succ]
              refine wpAnyH_ready (rs := [8]) (by kernel_rfl) (by simp) ?_
              refine AllReadyH.cons rfl (fun K hK => ?_) AllReadyH.nil
              have hbe := Blk.new wd (d.procs[p].cells sp).toArray 38
              have hse : wd.heap.size < (wd.alloc (.cells (d.procs[p].cells sp).toArray 38)).heap.size := by simp
              have hmb : (Value.slice (some ⟨g9, 0, Option.none⟩) d.procs.length cap9 = .slice Option.none 0 0) → 0 < 1 := fun _ => Nat.zero_lt_one
              refine step_app rfl _ _ _ rfl appProc (v := .slice (some ⟨g9, 0, Option.none⟩) d.procs.length cap9) rfl (HROWd.out.alloc _) rfl hmb (by rw [Nat.one_mul]; exact hpl) (by first | exact news_of hbe.has | (have h9 := hbe.has; rw [hsd] at h9; exact news_of h9)) (by simp [HSPO.out]; rfl) (by omega) (by omega) ?_
              intro gA capA wA hrowA hgA hggA
              replace hgA : (wd.alloc (.cells (d.procs[p].cells sp).toArray 38)).grownBy wA (some g9) := hgA
              have hxA := ext_alloc wd (.cells (d.procs[p].cells sp).toArray 38)
              have hMA := (HMd.out.ext hxA).grown hgA (by omega)
              have hXA := (HXd.out.trans hxA).grown hgA (by omega)
              have hgAl : gA ≠ w5.heap.size := by
                rcases hggA with h | h
                · have h' : some g9 = some gA := h
                  injection h' with h'; omega
                · omega
              refine hK.out _ _ ⟨(hHeld.1).grown hgA (by omega), hXA.blkHas HQ2b.out⟩ (fun hHeld => ?_)
              clear hK K
              try simp only [Act.put, List.getElem_toArray, List.getElem_cons_succ, List.getElem_cons_zero, List.setIfInBounds_toArray, List.set_cons_zero, List.set_cons_succ]
              (refine wpAnyH_take (i := 9) (v := _) rfl (by kernel_rfl) (by kernel_rfl) (by kernel_rfl) (fun _ _ _ h => h) (yif_load1 rfl fun _ _ => rfl) hHeld ?_; try simp only [Act.put, List.getElem_toArray, List.getElem_cons_succ, List.getElem_cons_zero, List.setIfInBounds_toArray, List.set_cons_zero, List.set_cons_succ])
              have zA := hMA.has 1 _ rfl
              have rA := hMA.frozen 1
              rw [Nat.zero_add] at zA
              refine wpAnyH_ready (rs := [10]) (by kernel_rfl) (by simp) ?_
              refine AllReadyH.cons rfl (fun K hK => ?_) AllReadyH.nil
              go_simp
              have hgC := gb_set wA w5.heap.size 1 (.slice (some ⟨gA, 0, Option.none⟩) (d.procs.length + 1) capA)
              refine hK.out _ _ ⟨hHeld.1.grown hgC (by omega), (hXA.grown hgC (Nat.le_refl _)).blkHas HQ2b.out⟩ (fun hHeld => ?_)
              clear hK K
              try simp only [Act.put, List.getElem_toArray, List.getElem_cons_succ, List.getElem_cons_zero, List.setIfInBounds_toArray, List.set_cons_zero, List.set_cons_succ]
              refine wpAnyH_done (by kernel_rfl) ?_ _
              go_wp2_with fail
              go_meet
              case rel => exact ⟨gA, capA, hrowA.kept hgC (.inr (fun h => hgAl (by have h' : some gA = some w5.heap.size := h; injection h' with h'))), hMA.set 1 _, hHeld.1, hXA.grown hgC (Nat.le_refl _), hgAl⟩
            · refine step_bs1 rfl _ _ rfl appProc rfl (cs := d.procs[p].cells sp) rfl rfl (by decide) ?_
              refine hK.out _ _ ⟨hHeld.1.ext (ext_alloc _ _), hHeld.2.ext (ext_alloc _ _)⟩ (fun hHeld => ?_)
              clear hK K
              try simp only [Act.put, List.getElem_toArray, List.getElem_cons_succ, List.getElem_cons_zero, List.setIfInBounds_toArray, List.set_cons_zero, List.set_cons_succ]
              have zd : (wd.alloc (.cells (d.procs[p].cells sp).toArray 38)).cell? ⟨w5.heap.size, 1, none⟩ = some (.slice (some ⟨g9, 0, Option.none⟩) d.procs.length cap9) := by
                have := (HMd.out.ext (ext_alloc wd (.cells (d.procs[p].cells sp).toArray 38))).has 1 _ rfl
                rwa [Nat.zero_add] at this
              refine wpAnyH_ready (rs := [1]) (by kernel_rfl) (by simp) ?_
              refine AllReadyH.cons rfl (fun K hK => ?_) AllReadyH.nil
              go_simp
              refine hK.out _ _ hHeld (fun hHeld => ?_)
              clear hK K zd
              try simp only [Act.put, List.getElem_toArray, List.getElem_cons_succ, List.getElem_cons_zero, List.setIfInBounds_toArray, List.set_cons_zero, List.set_cons_succ]
              refine wpAnyH_ready (rs := [8]) (by kernel_rfl) (by simp) ?_
              refine AllReadyH.cons rfl (fun K hK => ?_) AllReadyH.nil
              have hbe := Blk.new wd (d.procs[p].cells sp).toArray 38
              have hse : wd.heap.size < (wd.alloc (.cells (d.procs[p].cells sp).toArray 38)).heap.size := by simp
              have hmb : (Value.slice (some ⟨g9, 0, Option.none⟩) d.procs.length cap9 = .slice Option.none 0 0) → 0 < 1 := fun _ => Nat.zero_lt_one
              refine step_app rfl _ _ _ rfl appProc (v := .slice (some ⟨g9, 0, Option.none⟩) d.procs.length cap9) rfl (HROWd.out.alloc _) rfl hmb (by rw [Nat.one_mul]; exact hpl) (by first | exact news_of hbe.has | (have h9 := hbe.has; rw [hsd] at h9; exact news_of h9)) (by simp [HSPO.out]; rfl) (by omega) (by omega) ?_
              intro gA capA wA hrowA hgA hggA
              replace hgA : (wd.alloc (.cells (d.procs[p].cells sp).toArray 38)).grownBy wA (some g9) := hgA
              have hxA := ext_alloc wd (.cells (d.procs[p].cells sp).toArray 38)
              have hMA := (HMd.out.ext hxA).grown hgA (by omega)
              have hXA := (HXd.out.trans hxA).grown hgA (by omega)
              have hgAl : gA ≠ w5.heap.size := by
                rcases hggA with h | h
                · have h' : some g9 = some gA := h
                  injection h' with h'; omega
                · omega
              refine hK.out _ _ ⟨(hHeld.1).grown hgA (by omega), hXA.blkHas HQ2b.out⟩ (fun hHeld => ?_)
              clear hK K
              try simp only [Act.put, List.getElem_toArray, List.getElem_cons_succ, List.getElem_cons_zero, List.setIfInBounds_toArray, List.set_cons_zero, List.set_cons_succ]
              (refine wpAnyH_take (i := 9) (v := _) rfl (by kernel_rfl) (by kernel_rfl) (by kernel_rfl) (fun _ _ _ h => h) (yif_load1 rfl fun _ _ => rfl) hHeld ?_; try simp only [Act.put, List.getElem_toArray, List.getElem_cons_succ, List.getElem_cons_zero, List.setIfInBounds_toArray, List.set_cons_zero, List.set_cons_succ])
              have zA := hMA.has 1 _ rfl
              have rA := hMA.frozen 1
              rw [Nat.zero_add] at zA
              refine wpAnyH_ready (rs := [10]) (by kernel_rfl) (by simp) ?_
              refine AllReadyH.cons rfl (fun K hK => ?_) AllReadyH.nil
              go_simp
              have hgC := gb_set wA w5.heap.size 1 (.slice (some ⟨gA, 0, Option.none⟩) (d.procs.length + 1) capA)
              refine hK.out _ _ ⟨hHeld.1.grown hgC (by omega), (hXA.grown hgC (Nat.le_refl _)).blkHas HQ2b.out⟩ (fun hHeld => ?_)
              clear hK K
              try simp only [Act.put, List.getElem_toArray, List.getElem_cons_succ, List.getElem_cons_zero, List.setIfInBounds_toArray, List.set_cons_zero, List.set_cons_succ]
              refine wpAnyH_done (by kernel_rfl) ?_ _
              go_wp2_with fail
              go_meet
              case rel => exact ⟨gA, capA, hrowA.kept hgC (.inr (fun h => hgAl (by have h' : some gA = some w5.heap.size := h; injection h' with h'))), hMA.set 1 _, hHeld.1, hXA.grown hgC (Nat.le_refl _), hgAl⟩
          case rest =>
            obtain ⟨gA, capA, hrowA, hMA, hBA, hXA, hgAl⟩ := hcut
            have hcv2 : ∀ W, Ext w W → ∀ i (h : i < css.length) (h' : i < d.procs.length), VProc W css[i] d.procs[i] := fun W hx i h h' => (HCV.out i h h').ext hx
            have HCV2 := Lib.hid hcv2
            have hxwA : Ext w wc := HX5.out.trans hXA
            have HMORE := Lib.hid (show ∀ W, Ext wc W → FlatV W (.agg #[sv, .slice (some ⟨gA, 0, Option.none⟩) (d.procs.length + 1) capA, cv]) ⟨d.signals, d.procs ++ [d.procs[p]], d.checks⟩ from fun W hx => by
              refine ⟨_, _, _, rfl, HSC.out.1.ext (hxwA.trans hx), ?_, HSC.out.2.ext (hxwA.trans hx)⟩
              have hr : wc.ownsRow w6.heap.size 38 2 (.slice (some ⟨gA, 0, Option.none⟩) (d.procs.length + 1) capA) (d.procs.length + 1) (css ++ [d.procs[p].cells sp]).flatten := by
                rw [List.flatten_append]; simpa using hrowA
              refine Procs.ext (ownsRow_procs hr (d.procs ++ [d.procs[p]]) (by simp) (by simp [HCL.out]) ?_ ?_) hx
              · intro cs hc
                rcases List.mem_append.1 hc with hc | hc
                · exact HC2.out cs hc
                · obtain rfl := List.mem_singleton.1 hc; rfl
              · intro i h h'
                by_cases hi : i < d.procs.length
                · rw [List.getElem_append_left (by rw [HCL.out]; exact hi), List.getElem_append_left hi]
                  exact HCV2.out wc hxwA i _ hi
                · have hi2 : i = d.procs.length := by simp at h'; omega
                  subst hi2
                  rw [List.getElem_append_right (by rw [HCL.out]; exact Nat.le_refl _), List.getElem_append_right (Nat.le_refl _)]
                  simp only [HCL.out, Nat.sub_self, List.getElem_cons_zero]
                  have := HCV2.out wc hxwA p (by rw [HCL.out]; exact hp0) hp0
                  rw [HSP.out] at this; exact this)
            have HBA := Lib.hid hBA
            have HMA := Lib.hid hMA
            have HXA := Lib.hid hXA
            have hsA := hXA.size
            have hB5lt := HB5.out.lt
            clear hrowA hMA hBA hXA hgAl hcv2 hxwA HM9 HB9 HX9 HROW9 HCH9 HQ1 HQ2 HQ3
            have hxB := ext_alloc wc (.cells [sv, .slice (some ⟨b0, o0, Option.none⟩) d.procs.length c0, cv].toArray 26)
            have hbB := Blk.new wc [sv, .slice (some ⟨b0, o0, Option.none⟩) d.procs.length c0, cv].toArray 26
            have hsB : wc.heap.size < (wc.alloc (.cells [sv, .slice (some ⟨b0, o0, Option.none⟩) d.procs.length c0, cv].toArray 26)).heap.size := by simp
            go_upto_region 12 with (first | ((with_reducible show wpList _ _ _ ({ dst := _, op := Op.load 26 _, type := _, pos := _, after := _, guard := _ } :: _) _ _); refine wpList_load_has rfl 26 _ rfl rfl (HBA.out.has) agg_Flat rfl ?_) | ((with_reducible show wpList _ _ _ ({ dst := _, op := Op.store 26 _ _, type := _, pos := _, after := _, guard := _ } :: _) _ _); refine wpList_store_new rfl 26 _ _ rfl rfl (by first | rfl | simp) rfl agg_Flat (rfl) rfl (HONE.out) ?_))
            generalize wc.alloc _ = wB at *
            have HLB := Lib.hid hbB
            have HXB := Lib.hid hxB
            have HBB := Lib.hid (HBA.out.ext hxB)
            clear hbB hxB
            go_wp2_with (first | ((with_reducible show wpList _ _ _ ({ dst := _, op := Op.buildSlice _ _ _, type := _, pos := _, after := _, guard := _ } :: _) _ _); refine wpList_bs0 rfl _ rfl appProc ?_; refine Hid.out ?_))
            refine Lib.hid ?_
            have hx7 := ext_alloc wB (.cells #[] 38)
            have hown7 := World.ownsRow_made (size := 2) (base := wB.heap.size) (e := 38) wB #[] 0 (Nat.le_refl _) (by decide) rfl
            have hs7 : wB.heap.size < (wB.alloc (.cells #[] 38)).heap.size := by simp
            generalize wB.alloc _ = wC at *
            have y7 := (HBB.out.ext hx7).has 1 _ rfl
            rw [Nat.zero_add] at y7
            have HLC := Lib.hid (HLB.out.ext hx7)
            have HBC := Lib.hid (HBB.out.ext hx7)
            have HXC := Lib.hid (HXB.out.trans hx7)
            go_wp2_with (first | ((with_reducible show wpList _ _ _ ({ dst := _, op := Op.call { callee := .builtin .append, args := _, argTypes := _ }, type := _, pos := _, after := _, guard := _ } :: _) _ _); refine Hid.out ?_))
            refine Lib.hid ?_
            have hm12 : (Value.slice (some ⟨wB.heap.size, 0, Option.none⟩) 0 0 = .slice Option.none 0 0) → 0 < p := by intro h; cases h
            have hl12 : (css.take p).flatten.length = p * 2 := by
              rw [flat2 (fun cs hc => HC2.out cs (List.mem_of_mem_take hc)), List.length_take, HCL.out]; congr 1; omega
            obtain ⟨hq1, -, hq3⟩ := css_cut HC2.out (HCH.out.ext (HXA.out.trans HXC.out)) p (by rw [HCL.out]; exact hp0)
            have hn12 : 0 + p ≤ 16777216 := by omega
            have hb12 : wB.heap.size ≤ wC.heap.size := by omega
            refine wpList_app rfl _ _ _ rfl appProc (v := .slice (some ⟨wB.heap.size, 0, Option.none⟩) 0 0) rfl hown7 rfl hm12 hl12 (news_of hq1) (one_take HCO.out p) hn12 hb12 ?_
            intro gD capD wD hrowD hgD hggD
            rw [Nat.zero_add, List.nil_append] at hrowD
            replace hgD : wC.grownBy wD (some wB.heap.size) := hgD
            have hglD : wB.heap.size ≤ gD := by
              rcases hggD with h | h
              · have h' : some wB.heap.size = some gD := h
                injection h' with h'; omega
              · omega
            have hgtD : gD < wD.heap.size := (hrowD.lt gD rfl).2
            have hsD := hgD.size
            have HLD := Lib.hid (HLC.out.grown hgD (by omega))
            have HBD := Lib.hid (HBC.out.grown hgD (by omega))
            have HXD := Lib.hid (HXC.out.grown hgD (by omega))
            have z1 := HLD.out.has 1 _ rfl
            have r1 := HLD.out.frozen 1
            rw [Nat.zero_add] at z1
            have HROWD := Lib.hid hrowD
            clear hown7 hggD hgD y7 hx7 hs7 hm12 hn12 hb12 hrowD hq1 hq3 hl12
            go_upto_region 13 with fail
            have hmE : Blk _ wc.heap.size [sv, .slice (some ⟨gD, 0, Option.none⟩) p capD, cv].toArray 26 := HLD.out.set 1 (.slice (some ⟨gD, 0, Option.none⟩) p capD)
            have hgE := gb_set wD wc.heap.size 1 (.slice (some ⟨gD, 0, Option.none⟩) p capD)
            have HLE := Lib.hid hmE
            have HBE := Lib.hid (HBD.out.grown hgE (by omega))
            have HXE := Lib.hid (HXD.out.grown hgE (by omega))
            have HROWE := Lib.hid (HROWD.out.kept hgE (.inr (fun h => by have h' : some gD = some wc.heap.size := h; injection h' with h'; omega)))
            have hsE := hgE.size
            clear hgE z1 r1 hmE
            generalize wD.setCell _ _ = wE at *
            clear HLD HBD HXD HROWD HLC HBC HXC HLB HBB HXB
            go_cut [72] from 72 to 80 (fun _ wx => ∃ gF capF, wx.ownsRow wB.heap.size 38 2 (.slice (some ⟨gF, 0, Option.none⟩) (p + (d.procs.length - (p + 1))) capF) (p + (d.procs.length - (p + 1))) ((css.take p).flatten ++ (css.drop (p + 1)).flatten) ∧ Blk wx wc.heap.size [sv, .slice (some ⟨gF, 0, Option.none⟩) (p + (d.procs.length - (p + 1))) capF, cv].toArray 26 ∧ Blk wx w.heap.size [sv, .slice (some ⟨b0, o0, Option.none⟩) d.procs.length c0, cv].toArray 26 ∧ Ext wc wx)
            case first =>
              refine wp_region_held_drew (S := fun W => Blk W w.heap.size [sv, .slice (some ⟨b0, o0, Option.none⟩) d.procs.length c0, cv].toArray 26) (by kernel_rfl) HBE.out.drew (fun hHeld => ?_)
              have hxd : Ext wE wE.drew := Below.drew (Below.refl _ _)
              obtain ⟨ad, had1, had2⟩ : ∃ ad : Addr, (if c0 = p + 1 then some (⟨b0, o0, Option.none⟩ : Addr) else some ⟨b0, o0 + (p + 1) * 2, Option.none⟩) = some ad ∧ ∀ W, Has W b0 (o0 + (p + 1) * 2) (css.drop (p + 1)).flatten → ∀ j u, (css.drop (p + 1)).flatten[j]? = some u → W.cell? (ad.add j) = some u := by
                by_cases hcp : c0 = p + 1
                · refine ⟨_, if_pos hcp, fun W _ j u hj => ?_⟩
                  have h0 : css.drop (p + 1) = [] := List.drop_eq_nil_of_le (by rw [HCL.out]; omega)
                  rw [h0] at hj; simp at hj
                · exact ⟨_, if_neg hcp, fun W h => news_of h⟩
              have HAD2 := Lib.hid had2
              clear had2
              have HMd := Lib.hid (HLE.out.ext hxd)
              have HXd := Lib.hid (HXE.out.trans hxd)
              have HROWd := Lib.hid (show wE.drew.ownsRow wB.heap.size 38 2 (.slice (some ⟨gD, 0, Option.none⟩) p capD) p (css.take p).flatten from HROWE.out)
              have hsd : wE.drew.heap.size = wE.heap.size := rfl
              generalize wE.drew = wd at *
              clear hxd
              try simp only [Act.put, List.getElem_toArray, List.getElem_cons_succ, List.getElem_cons_zero, List.setIfInBounds_toArray, List.set_cons_zero, List.set_cons_succ]
              (refine wpAnyH_take (i := 0) (v := _) rfl (by kernel_rfl) (by kernel_rfl) (by kernel_rfl) (fun _ _ _ h => h) (yif_load1 rfl fun _ _ => rfl) hHeld ?_; try simp only [Act.put, List.getElem_toArray, List.getElem_cons_succ, List.getElem_cons_zero, List.setIfInBounds_toArray, List.set_cons_zero, List.set_cons_succ])
              (refine wpAnyH_take (i := 2) (v := _) rfl (by kernel_rfl) (by kernel_rfl) (by kernel_rfl) (fun _ _ _ h => h) (yif_load1 rfl fun _ _ => rfl) hHeld ?_; try simp only [Act.put, List.getElem_toArray, List.getElem_cons_succ, List.getElem_cons_zero, List.setIfInBounds_toArray, List.set_cons_zero, List.set_cons_succ])
              (refine wpAnyH_take (i := 3) (v := .slice (some ⟨b0, o0, Option.none⟩) d.procs.length c0) rfl (by kernel_rfl) (by kernel_rfl) (by kernel_rfl) (fun _ _ _ h => h) (yif_load1 rfl (by intro W hW; have y1 := hW.has 1 _ rfl; rw [Nat.zero_add] at y1; clear hW; go_simp)) hHeld ?_; try simp only [Act.put, List.getElem_toArray, List.getElem_cons_succ, List.getElem_cons_zero, List.setIfInBounds_toArray, List.set_cons_zero, List.set_cons_succ])
              (refine wpAnyH_take (i := 4) (v := _) rfl (by kernel_rfl) (by kernel_rfl) (by kernel_rfl) (fun _ _ _ h => h) (yif_load1 rfl fun _ _ => rfl) hHeld ?_; try simp only [Act.put, List.getElem_toArray, List.getElem_cons_succ, List.getElem_cons_zero, List.setIfInBounds_toArray, List.set_cons_zero, List.set_cons_succ])
              (refine wpAnyH_take (i := 5) (v := .int .i64 ((p + 1 : Nat) : Int)) rfl (by kernel_rfl) (by kernel_rfl) (by kernel_rfl) (fun _ _ _ h => h) (yif_load1 rfl (by intro W hW; clear hW; go_simp; rw [IntKind.wrap_i64]; omega)) hHeld ?_; try simp only [Act.put, List.getElem_toArray, List.getElem_cons_succ, List.getElem_cons_zero, List.setIfInBounds_toArray, List.set_cons_zero, List.set_cons_succ])
              (refine wpAnyH_take (i := 6) (v := .slice (some ad) (d.procs.length - (p + 1)) (c0 - (p + 1))) rfl (by kernel_rfl) (by kernel_rfl) (by kernel_rfl) (fun _ _ _ h => h) (yif_load1 rfl (by intro W hW; clear hW; go_simp; intro h; exfalso; have h9 := h (by omega); omega)) hHeld ?_; try simp only [Act.put, List.getElem_toArray, List.getElem_cons_succ, List.getElem_cons_zero, List.setIfInBounds_toArray, List.set_cons_zero, List.set_cons_succ])
              have zd := HMd.out.has 1 _ rfl
              rw [Nat.zero_add] at zd
              refine wpAnyH_ready (rs := [1]) (by kernel_rfl) (by simp) ?_
              refine AllReadyH.cons rfl (fun K hK => ?_) AllReadyH.nil
              go_simp
              refine hK.out _ _ hHeld (fun hHeld => ?_)
              clear hK K zd
              try simp only [Act.put, List.getElem_toArray, List.getElem_cons_succ, List.getElem_cons_zero, List.setIfInBounds_toArray, List.set_cons_zero, List.set_cons_succ]
              refine wpAnyH_ready (rs := [7]) (by kernel_rfl) (by simp) ?_
              refine AllReadyH.cons rfl (fun K hK => ?_) AllReadyH.nil
              obtain ⟨-, -, hq3⟩ := css_cut HC2.out (HCH.out.ext (HXA.out.trans HXd.out)) p (by rw [HCL.out]; exact hp0)
              have hl13 : (css.drop (p + 1)).flatten.length = (d.procs.length - (p + 1)) * 2 := by
                rw [flat2 (fun cs hc => HC2.out cs (List.mem_of_mem_drop hc)), List.length_drop, HCL.out]
              have hm13 : (Value.slice (some ⟨gD, 0, Option.none⟩) p capD = .slice Option.none 0 0) → 0 < d.procs.length - (p + 1) := by intro h; cases h
              refine step_app rfl _ _ _ rfl appProc (v := .slice (some ⟨gD, 0, Option.none⟩) p capD) rfl HROWd.out rfl hm13 hl13 (HAD2.out _ hq3) (one_drop HCO.out (p + 1)) (by omega) (by omega) ?_
              intro gF capF wF hrowF hgF hggF
              replace hgF : wd.grownBy wF (some gD) := hgF
              have hMF := HMd.out.grown hgF (by omega)
              have hXF := HXd.out.grown hgF (by omega)
              have hgFl : gF ≠ wc.heap.size := by
                rcases hggF with h | h
                · have h' : some gD = some gF := h
                  injection h' with h'; omega
                · omega
              refine hK.out _ _ (hHeld.grown hgF (by omega)) (fun hHeld => ?_)
              clear hK K
              try simp only [Act.put, List.getElem_toArray, List.getElem_cons_succ, List.getElem_cons_zero, List.setIfInBounds_toArray, List.set_cons_zero, List.set_cons_succ]
              (refine wpAnyH_take (i := 8) (v := _) rfl (by kernel_rfl) (by kernel_rfl) (by kernel_rfl) (fun _ _ _ h => h) (yif_load1 rfl fun _ _ => rfl) hHeld ?_; try simp only [Act.put, List.getElem_toArray, List.getElem_cons_succ, List.getElem_cons_zero, List.setIfInBounds_toArray, List.set_cons_zero, List.set_cons_succ])
              have zA := hMF.has 1 _ rfl
              have rA := hMF.frozen 1
              rw [Nat.zero_add] at zA
              refine wpAnyH_ready (rs := [9]) (by kernel_rfl) (by simp) ?_
              refine AllReadyH.cons rfl (fun K hK => ?_) AllReadyH.nil
              go_simp
              have hgC := gb_set wF wc.heap.size 1 (.slice (some ⟨gF, 0, Option.none⟩) (p + (d.procs.length - (p + 1))) capF)
              refine hK.out _ _ (hHeld.grown hgC (by omega)) (fun hHeld => ?_)
              clear hK K
              try simp only [Act.put, List.getElem_toArray, List.getElem_cons_succ, List.getElem_cons_zero, List.setIfInBounds_toArray, List.set_cons_zero, List.set_cons_succ]
              refine wpAnyH_done (by kernel_rfl) ?_ _
              go_wp2_with fail
              go_meet
              case rel => exact ⟨gF, capF, hrowF.kept hgC (.inr (fun h => hgFl (by have h' : some gF = some wc.heap.size := h; injection h' with h'))), hMF.set 1 _, hHeld, hXF.grown hgC (Nat.le_refl _)⟩
            case rest =>
              obtain ⟨gF, capF, hrowF, hMF, hBF, hXF⟩ := hcut
              obtain ⟨wx, hwx⟩ : ∃ x, x = wc := ⟨_, rfl⟩
              rw [← hwx] at hrowF hMF hBF hXF ⊢
              clear hwx
              have hxwF : Ext w wx := HX5.out.trans (HXA.out.trans hXF)
              have HLESS := Lib.hid (show ∀ W, Ext wx W → FlatV W (.agg #[sv, .slice (some ⟨gF, 0, Option.none⟩) (p + (d.procs.length - (p + 1))) capF, cv]) ⟨d.signals, d.procs.take p ++ d.procs.drop (p + 1), d.checks⟩ from fun W hx => by
                refine ⟨_, _, _, rfl, HSC.out.1.ext (hxwF.trans hx), ?_, HSC.out.2.ext (hxwF.trans hx)⟩
                have hr : wx.ownsRow wB.heap.size 38 2 (.slice (some ⟨gF, 0, Option.none⟩) (p + (d.procs.length - (p + 1))) capF) (p + (d.procs.length - (p + 1))) (css.take p ++ css.drop (p + 1)).flatten := by
                  rw [List.flatten_append]; exact hrowF
                have hl1 : (css.take p).length = p := by rw [List.length_take, HCL.out]; omega
                have hl2 : (d.procs.take p).length = p := by rw [List.length_take]; omega
                refine Procs.ext (ownsRow_procs hr (d.procs.take p ++ d.procs.drop (p + 1)) (by simp; omega) (by simp [HCL.out]) ?_ ?_) hx
                · intro cs hc
                  rcases List.mem_append.1 hc with hc | hc
                  · exact HC2.out cs (List.mem_of_mem_take hc)
                  · exact HC2.out cs (List.mem_of_mem_drop hc)
                · intro i h h'
                  by_cases hi : i < p
                  · rw [List.getElem_append_left (by omega), List.getElem_append_left (by omega), List.getElem_take, List.getElem_take]
                    exact HCV2.out wx hxwF i _ _
                  · rw [List.getElem_append_right (by omega), List.getElem_append_right (by omega), List.getElem_drop, List.getElem_drop]
                    simp only [hl1, hl2]
                    exact HCV2.out wx hxwF _ _ _)
              have HMF := Lib.hid hMF
              have HMORE2 := Lib.hid (fun W (hx : Ext wx W) => HMORE.out W (hXF.trans hx))
              have HMX := Lib.hid (HMA.out.ext hXF)
              have HXW := Lib.hid hxwF
              have hcell : wx.cell? ⟨b0, o0 + p * 2, none⟩ = some (.bool d.procs[p].clocked) := by
                have := (HQ2b.out.ext (HXA.out.trans hXF)) 0 _ rfl
                simpa using this
              have y1 := hBF.has 1 _ rfl
              rw [Nat.zero_add] at y1
              have HCM := Lib.hid (fun W (hx : Ext wx W) => LCheck_calls ⟨d.signals, d.procs ++ [d.procs[p]], d.checks⟩ _ W (HMORE2.out W hx) HS1.out)
              have HCL2 := Lib.hid (fun W (hx : Ext wx W) => LCheck_calls ⟨d.signals, d.procs.take p ++ d.procs.drop (p + 1), d.checks⟩ _ W (HLESS.out W hx) HS3.out)
              rw [HS2.out] at HCM
              rw [HS4.out] at HCL2
              clear hrowF hMF hBF hXF hxwF HLE HBE HXE HROWE HMA HXA HBA HMORE HLESS HCV2 HCH HQ2b HSP HSPO hpl
              obtain ⟨ck, hck⟩ : ∃ ck, d.procs[p].clocked = ck := ⟨_, rfl⟩
              rw [hck] at hcell HCL2
              clear hck
              cases ck
              · rw [if_neg (by decide)] at HCL2
                go_wp2_with (first | ((with_reducible show wpList _ _ _ ({ dst := _, op := Op.load 26 _, type := _, pos := _, after := _, guard := _ } :: _) _ _); refine wpList_load_has rfl 26 _ rfl rfl (HMF.out.has) agg_Flat rfl ?_) | ((with_reducible show wpList _ _ _ ({ dst := _, op := Op.load 26 _, type := _, pos := _, after := _, guard := _ } :: _) _ _); refine wpList_load_has rfl 26 _ rfl rfl (HMY.out.has) agg_Flat rfl ?_) | (go_at_call 14; refine (HCL2.out _ (Below.refl _ _)).mono ?_; rintro r wy ⟨rfl, hxy⟩; have HMY := Lib.hid (HMX.out.ext hxy); clear HCL2) | (go_at_call 14; refine (HCM.out _ hxy).mono ?_; rintro r wz ⟨rfl, hxz⟩))
                go_ret
                exact ⟨rfl, HXW.out.trans (hxy.trans hxz)⟩
              · rw [if_pos rfl] at HCL2
                go_wp2_with (first | ((with_reducible show wpList _ _ _ ({ dst := _, op := Op.load 26 _, type := _, pos := _, after := _, guard := _ } :: _) _ _); refine wpList_load_has rfl 26 _ rfl rfl (HMF.out.has) agg_Flat rfl ?_) | ((with_reducible show wpList _ _ _ ({ dst := _, op := Op.load 26 _, type := _, pos := _, after := _, guard := _ } :: _) _ _); refine wpList_load_has rfl 26 _ rfl rfl (HMY.out.has) agg_Flat rfl ?_) | (go_at_call 14; refine (HCL2.out _ (Below.refl _ _)).mono ?_; rintro r wy ⟨rfl, hxy⟩; have HMY := Lib.hid (HMX.out.ext hxy); clear HCL2) | (go_at_call 14; refine (HCM.out _ hxy).mono ?_; rintro r wz ⟨rfl, hxz⟩))
                go_ret
                exact ⟨rfl, HXW.out.trans (hxy.trans hxz)⟩
      · have hbq : ((lookM d).1 != 0) = true := by rw [bne_iff_ne]; exact hl
        have HN0 := Lib.hid hn0
        clear hl hn0
        obtain ⟨q, hq⟩ : ∃ q, (lookM d).1 = q := ⟨_, rfl⟩
        rw [hq] at hbq HCK
        clear hq
        go_wp2_with (first | ((with_reducible show wpList _ _ _ ({ dst := _, op := Op.load 26 _, type := _, pos := _, after := _, guard := _ } :: _) _ _); refine wpList_load_has rfl 26 _ rfl rfl (HB2.out.has) agg_Flat rfl ?_) | (go_at_call 10; refine HFW.out.mono ?_; rintro r w3 ⟨rfl, hx3⟩; have HB3 := Lib.hid (HB2.out.ext hx3); have y1 := HB3.out.has 1 _ rfl; rw [Nat.zero_add] at y1) | ((with_reducible show wpList _ _ _ ({ dst := _, op := Op.load 26 _, type := _, pos := _, after := _, guard := _ } :: _) _ _); refine wpList_load_has rfl 26 _ rfl rfl (HB3.out.has) agg_Flat rfl ?_) | (go_at_call 14; refine (HCK.out _ hx3).mono ?_; rintro r w4 ⟨rfl, hx4⟩))
        go_ret
        exact ⟨rfl, HX2.out.trans (hx3.trans hx4)⟩
end Go.Proofs.YthpemngachlehaaGreat
