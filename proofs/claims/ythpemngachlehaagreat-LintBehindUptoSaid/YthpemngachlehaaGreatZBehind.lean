/- Laws and walks that a claim of this seat leans on: Behind. -/
import Derived.Test.YthpemngachlehaaGreatZ14
import Derived.Test.YthpemngachlehaaGreatZLive3
import Derived.Test.YthpemngachlehaaGreatZ12
set_option linter.all false
namespace Go.Proofs.YthpemngachlehaaGreat
open Go.RowKit

theorem Ext.drewN {w w' : World} (h : Ext w w') (n : Nat) : Ext w (w'.drewN n) := h.trans ⟨rfl, rfl, rfl, Nat.le_refl _, fun _ _ => rfl⟩
/-- what has come: the processes among the first of the order -/
def comeL (o : List Int) (i n : Nat) : List Bool := (List.range n).map fun (k : Nat) => decide ((k : Int) ∈ o.take i)
theorem comeL_zero (o : List Int) (n : Nat) : comeL o 0 n = List.replicate n false := by
  unfold comeL
  refine List.ext_getElem (by simp) fun i h1 h2 => by simp
theorem comeL_succ {o : List Int} {i n k : Nat} (hp : o[i]? = some (k : Int)) : comeL o (i + 1) n = (comeL o i n).set k true := by
  refine List.ext_getElem (by simp [comeL]) fun m h1 h2 => ?_
  simp only [comeL, List.getElem_map, List.getElem_range, List.getElem_set]
  rw [List.take_add_one, hp]
  by_cases e : k = m
  · rw [if_pos e, e]; simp
  · rw [if_neg e]
    have : ¬ (m : Int) = (k : Int) := by omega
    simp [this]
theorem comeL_length (o : List Int) (i n : Nat) : (comeL o i n).length = n := by simp [comeL]
theorem comeL_cell {w : World} {c : Nat} {o : List Int} {i n k : Nat} (h : Blk w c ((comeL o i n).map Value.bool).toArray 4) (hk : k < n) : w.cell? ⟨c, k, none⟩ = some (.bool (decide ((k : Int) ∈ o.take i))) := by
  have yc := h.cell k
  rw [List.getElem?_toArray, List.getElem?_map, List.getElem?_eq_getElem (by rw [comeL_length]; exact hk)] at yc
  simpa [comeL] using yc
theorem lookM_bad {d : Flat} (h : (lookM d).1 ≠ 0) : (lookM d).2.2 = [] := by
  unfold lookM at h ⊢
  by_cases h1 : (drvD d).1 ≠ 0
  · rw [if_pos h1]
  · rw [if_neg h1] at h ⊢
    by_cases h2 : noneF d.signals (drvD d).2 0 d.signals = true
    · rw [if_pos h2]
    · rw [if_neg h2] at h ⊢
      by_cases h3 : latF d 0 d.procs = true
      · rw [if_pos h3]
      · rw [if_neg h3] at h ⊢
        by_cases h4 : (ordM (graphM d (drvD d).2) (clks d)).length < wiresM (clks d)
        · rw [if_pos h4]
        · rw [if_neg h4] at h
          exact absurd rfl h

set_option maxRecDepth 100000 in
set_option maxHeartbeats 8000000 in
theorem LintBehind_calls (d : Flat) (v : Value) (w : World) (h : FlatV w v d) (hok : d.ok) :
    Calls Tryz.prog 5 #[v] w fun r w' => r = .returned (.bool true) ∧ Ext w w' := by
  have HF := Lib.hid h
  obtain ⟨sv, pv, cv, rfl, hS, hP, hC⟩ := h
  have HX := Lib.hid (ext_alloc w (.cells [sv, pv, cv].toArray 26))
  have HB := Lib.hid (Blk.new w [sv, pv, cv].toArray 26)
  have hln := hok.procs
  obtain ⟨a0, b0, o0, c0, rfl, hc1, hc2, ha, hr⟩ := hP.open
  have HA := Lib.hid ha
  have HR := Lib.hid hr
  clear hS hP hC ha hr
  go_enter Tryz.func5, Tryz.ntmps5
  go_upto_region 2 with (first | (go_at_call 9; refine (live_calls _).mono ?_; rintro r w2 ⟨rfl, hx2⟩))
  have HX2 := Lib.hid (HX.out.trans hx2)
  have HB2 := Lib.hid (HB.out.ext hx2)
  generalize w.alloc _ = w1 at *
  clear hx2 HB HX
  have HFW : Hid (Calls Tryz.prog 10 _ w2 fun r w' => r = .returned (.bool (few12 d)) ∧ Ext w2 w') := Lib.hid (few12_calls d _ w2 (HF.out.ext HX2.out) hok.nodes)
  have HOR := Lib.hid (fun W (hx : Ext w2 W) => Order_calls d _ W (HF.out.ext (HX2.out.trans hx)) hok)
  have HLV := Lib.hid (fun W (hx : Ext w2 W) => Levels_calls d _ W (HF.out.ext (HX2.out.trans hx)) hok)
  have HDR := Lib.hid (fun W (hx : Ext w2 W) => Drivers_calls d _ W (HF.out.ext (HX2.out.trans hx)) hok)
  obtain ⟨fw, hfw⟩ : ∃ fw, few12 d = fw := ⟨_, rfl⟩
  rw [hfw] at HFW
  clear hfw
  cases fw
  · clear HOR HLV HDR
    go_wp2_with (first | ((with_reducible show wpList _ _ _ ({ dst := _, op := Op.load 26 _, type := _, pos := _, after := _, guard := _ } :: _) _ _); refine wpList_load_has rfl 26 _ rfl rfl (HB2.out.has) agg_Flat rfl ?_) | (go_at_call 10; refine HFW.out.mono ?_; rintro r w3 ⟨rfl, hx3⟩))
    go_ret
    exact ⟨rfl, HX2.out.trans hx3⟩
  · by_cases hl : (lookM d).1 = 0
    · obtain ⟨hck, by', hd, hdm, -⟩ := lookM_zero hok hl
      have hbeh := behind hok hl hd
      have hbl := drvD_len hok hck hdm
      have hnb := nBits_le hok hck
      obtain ⟨o, ho⟩ : ∃ o, (lookM d).2.2 = o := ⟨_, rfl⟩
      obtain ⟨lev, hlev⟩ : ∃ l, (levD d).2 = l := ⟨_, rfl⟩
      have hlv1 : (levD d).1 = 0 := by unfold levD; rw [if_neg (by rw [hl]; decide)]
      rw [ho, hlev] at hbeh
      rw [hl, ho] at HOR
      rw [hlv1, hlev] at HLV
      rw [hd] at HDR
      obtain ⟨nb, hnbe⟩ : ∃ nb, by'.length = nb := ⟨_, rfl⟩
      have hnb2 : (nb : Int) = nBits d := by rw [← hnbe]; exact hbl.1
      have HNB := Lib.hid hnb2
      have HNE := Lib.hid hnbe
      have HBY := Lib.hid hbl.2
      have hnb3 : nb ≤ 67108864 := by omega
      have hol : o.length ≤ d.procs.length := hbeh.olen
      have HLL := Lib.hid hbeh.len
      have HBEH := Lib.hid hbeh
      have HC0 := Lib.hid hck
      clear hl hd hdm hbl hnbe hnb2 hnb hck hbeh ho hlev hlv1
      go_upto_region 7 with (first | ((with_reducible show wpList _ _ _ ({ dst := _, op := Op.load 26 _, type := _, pos := _, after := _, guard := _ } :: _) _ _); refine wpList_load_has rfl 26 _ rfl rfl (HB2.out.has) agg_Flat rfl ?_) | (go_at_call 10; refine HFW.out.mono ?_; rintro r w3 ⟨rfl, hx3⟩; have HB3 := Lib.hid (HB2.out.ext hx3)) | ((with_reducible show wpList _ _ _ ({ dst := _, op := Op.load 26 _, type := _, pos := _, after := _, guard := _ } :: _) _ _); refine wpList_load_has rfl 26 _ rfl rfl (HB3.out.has) agg_Flat rfl ?_) | (go_at_call 16; refine (HOR.out _ hx3).mono ?_; rintro r w4 ⟨u4, rfl, hr4, hx4⟩; have HX4 := Lib.hid (hx3.trans hx4); have HB4 := Lib.hid (HB2.out.ext HX4.out)) | ((with_reducible show wpList _ _ _ ({ dst := _, op := Op.load 26 _, type := _, pos := _, after := _, guard := _ } :: _) _ _); refine wpList_load_has rfl 26 _ rfl rfl (HB4.out.has) agg_Flat rfl ?_) | (go_at_call 18; refine (HLV.out _ HX4.out).mono ?_; rintro r w5 ⟨u5, rfl, hr5, hx5⟩; have HX5 := Lib.hid (HX4.out.trans hx5); have HB5 := Lib.hid (HB2.out.ext HX5.out)) | ((with_reducible show wpList _ _ _ ({ dst := _, op := Op.load 26 _, type := _, pos := _, after := _, guard := _ } :: _) _ _); refine wpList_load_has rfl 26 _ rfl rfl (HB5.out.has) agg_Flat rfl ?_) | (go_at_call 11; refine (HDR.out _ HX5.out).mono ?_; rintro r w6 ⟨u6, rfl, hr6, hx6⟩))
      obtain ⟨ao, co, hu, -⟩ := hr4.open
      subst hu
      obtain ⟨al, cl, hu, -⟩ := hr5.open
      rw [HLL.out] at hu
      subst hu
      obtain ⟨ay, cy, hu, -⟩ := hr6.open
      try simp only at hu
      rw [HNE.out] at hu
      subst hu
      have HRO := Lib.hid (hr4.ext (hx5.trans hx6))
      have HRL := Lib.hid (hr5.ext hx6)
      have HRY := Lib.hid hr6
      have HX6 := Lib.hid (HX5.out.trans hx6)
      have HXW := Lib.hid (HX2.out.trans HX6.out)
      have HB6 := Lib.hid (HB2.out.ext HX6.out)
      have y1 := HB6.out.has 1 _ rfl
      rw [Nat.zero_add] at y1
      clear hr4 hr5 hr6 hx3 hx4 hx5 hx6 HB3 HB4 HB5 HX4 HX5 HDR HOR HLV HFW HB2
      go_wp2_with ((with_reducible show wpList _ _ _ ({ dst := _, op := Op.makeSlice _ _ _, type := _, pos := _, after := _, guard := _ } :: _) _ _); refine Hid.out ?_)
      refine Lib.hid ?_
      have hx7 := ext_alloc w6 (.cells (madeCells (Value.bool false).cells (d.procs.length * 1)) 4)
      have hb7 := Blk.new w6 (madeCells (Value.bool false).cells (d.procs.length * 1)) 4
      rw [show madeCells (Value.bool false).cells (d.procs.length * 1) = (List.replicate d.procs.length (Value.bool false)).toArray by rw [Nat.mul_one]; exact madeCells_one _ _] at hx7 hb7
      refine wpList_mk rfl _ _ _ rfl (n := d.procs.length) rfl rfl Tryz.underlying35 info_bool (by omega) (by omega) ?_
      rw [show madeCells (Value.bool false).cells (d.procs.length * 1) = (List.replicate d.procs.length (Value.bool false)).toArray by rw [Nat.mul_one]; exact madeCells_one _ _]
      generalize w6.alloc _ = w7 at *
      obtain ⟨c, hc⟩ : ∃ c, w6.heap.size = c := ⟨_, rfl⟩
      rw [hc] at hb7 ⊢
      have hb7' : Blk w7 c ((comeL o 0 d.procs.length).map Value.bool).toArray 4 := by rw [comeL_zero, List.map_replicate]; exact hb7
      have HC := Lib.hid hc
      have HX7 := Lib.hid hx7
      have HB7 := Lib.hid hb7'
      clear hc hx7 hb7 hb7' y1
      go_wp2_with fail
      refine wp_loop (Rel1 (fun i f => ⟨#[f 0, .pointer (some ⟨w.heap.size, 0, Option.none⟩), f 2, .bool true, .slice ao o.length co, f 5, .slice al d.procs.length cl, f 7, .slice ay nb cy, f 9, .slice (some ⟨c, 0, Option.none⟩) d.procs.length d.procs.length, .int .i64 (i : Int), f 12, f 13, f 14, f 15, f 16, f 17, f 18, f 19, f 20, f 21, f 22, f 23, f 24, f 25, f 26, f 27, f 28, f 29, f 30, f 31, f 32, f 33, f 34, f 35, f 36, f 37, f 38, f 39, f 40, f 41, f 42, f 43, f 44, f 45, f 46, f 47, f 48, f 49, f 50, f 51, f 52, f 53, f 54, f 55, f 56, f 57, f 58, f 59, f 60, f 61, f 62, f 63, f 64, f 65, f 66, f 67, f 68, f 69, f 70, f 71, f 72, f 73, f 74, f 75, f 76, f 77, f 78, f 79, f 80, f 81, f 82, f 83, f 84, f 85, f 86, f 87, f 88, f 89, f 90, f 91, f 92, f 93, f 94, f 95, f 96, f 97, f 98, f 99, f 100, f 101, f 102, f 103, f 104, f 105, f 106, f 107, f 108, f 109, f 110, f 111, f 112, f 113, f 114, f 115, f 116, f 117, f 118, f 119, f 120, f 121, f 122, f 123, f 124, f 125, f 126, f 127, f 128, f 129, f 130, f 131, f 132, f 133, f 134, f 135, f 136, f 137, f 138, f 139, f 140, f 141, f 142, f 143, f 144, f 145, f 146, f 147, f 148, f 149, f 150, f 151, f 152, f 153, f 154, f 155, f 156, f 157, f 158, f 159, f 160, f 161, f 162, f 163, f 164, f 165, f 166, f 167, f 168, f 169, f 170, f 171, f 172, f 173, f 174, f 175, f 176, f 177, f 178, f 179, f 180, f 181, f 182, f 183, f 184, f 185, f 186, f 187, f 188, f 189, f 190, f 191, f 192, f 193, f 194, f 195, f 196, f 197, f 198, f 199, f 200, f 201, f 202], []⟩) (fun i wr => i ≤ o.length ∧ Blk wr c ((comeL o i d.procs.length).map Value.bool).toArray 4 ∧ Ext w6 wr)) (fun a _ => o.length - (intOf (a.tmps.getD 11 undef)).toNat)
        (Rel1.intro 0 rfl ⟨Nat.zero_le _, HB7.out, HX7.out⟩) ?_
      rintro a wr ⟨i, f, rfl, hi, hbc, hxr⟩
      have HXR := Lib.hid hxr
      have HBC := Lib.hid hbc
      have HBR := Lib.hid (HB6.out.ext hxr)
      have y1 := HBR.out.has 1 _ rfl
      rw [Nat.zero_add] at y1
      clear hxr hbc
      by_cases hlt : i < o.length
      · obtain ⟨go, co', heo, hgo, hgoc⟩ := HRO.out.open1 (by omega)
        injection heo with e1 e2 e3
        subst e1
        subst e3
        obtain ⟨p, hp⟩ : ∃ p, o[i]? = some p := ⟨o[i], List.getElem?_eq_getElem hlt⟩
        obtain ⟨hp0, hpn, hpc, hpt⟩ := HBEH.out.inr i p hp
        obtain ⟨k, rfl⟩ : ∃ k : Nat, p = k := ⟨p.toNat, by omega⟩
        simp only [Int.toNat_natCast] at hpn hpc
        have yo := Has.one1 (hgoc i (k : Int) hp) HXR.out
        have yk := comeL_cell HBC.out hpn
        rw [decide_eq_false hpt] at yk
        obtain rfl := HA.out (by omega)
        obtain ⟨t1, hhas, -⟩ := Procs.get HR.out hpn
        have yc := (hhas.ext (HXW.out.trans HXR.out)) 0 _ rfl
        rw [Nat.add_zero, hpc] at yc
        have hrng := readsM_range hok HC0.out (p := (k : Int)) (by simpa using hpn)
        have HRD := Lib.hid (Reads_ok d _ wr (HF.out.ext (HXW.out.trans HXR.out)) hok HC0.out hpn)
        have hhg := HBEH.out.hang i (k : Int) hp
        obtain ⟨rs, hrs⟩ : ∃ rs, readsM d (k : Int) = rs := ⟨_, rfl⟩
        have hrl : rs.length ≤ nb := by
          have h1 : (readsM d (k : Int)).length ≤ (nBits d).toNat := lt_length _ _ (numbersM_lt _ _ : (readsM d (k : Int)).Pairwise (· < ·)) hrng
          have := HNB.out
          rw [hrs] at h1; omega
        rw [hrs] at HRD hrng hhg
        have HRNG := Lib.hid hrng
        have HHG := Lib.hid hhg
        have HP := Lib.hid hp
        have HPT := Lib.hid hpt
        clear hrng hhg hrs hp hpt hpc hhas hgo hgoc e2
        go_wp2_with (first | ((with_reducible show wpList _ _ _ ({ dst := _, op := Op.load 26 _, type := _, pos := _, after := _, guard := _ } :: _) _ _); refine wpList_load_has rfl 26 _ rfl rfl (HBR.out.has) agg_Flat rfl ?_) | (go_at_call 20; refine HRD.out.mono ?_; rintro r w8 ⟨u8, rfl, hr8, hx8⟩))
        obtain ⟨ar, cr, hu, -⟩ := hr8.open
        subst hu
        have HRR := Lib.hid hr8
        have HX8 := Lib.hid (HXR.out.trans hx8)
        have HB8 := Lib.hid (HBR.out.ext hx8)
        have HC8 := Lib.hid (HBC.out.ext hx8)
        clear hr8 hx8 yo yk yc y1 HRD
        refine wp_loop (Rel1 (fun j g => ⟨#[g 0, .pointer (some ⟨w.heap.size, 0, Option.none⟩), g 2, .bool true, .slice (some ⟨go, 0, Option.none⟩) o.length co, g 5, .slice al d.procs.length cl, g 7, .slice ay nb cy, g 9, .slice (some ⟨c, 0, Option.none⟩) d.procs.length d.procs.length, .int .i64 (i : Int), .int .i64 (k : Int), .slice ar rs.length cr, .int .i64 0, .int .i64 (j : Int), g 16, g 17, g 18, g 19, g 20, g 21, g 22, g 23, g 24, g 25, g 26, g 27, g 28, g 29, g 30, g 31, g 32, g 33, g 34, g 35, g 36, g 37, g 38, g 39, g 40, g 41, g 42, g 43, g 44, g 45, g 46, g 47, g 48, g 49, g 50, g 51, g 52, g 53, g 54, g 55, g 56, g 57, g 58, g 59, g 60, g 61, g 62, g 63, g 64, g 65, g 66, g 67, g 68, g 69, g 70, g 71, g 72, g 73, g 74, g 75, g 76, g 77, g 78, g 79, g 80, g 81, g 82, g 83, g 84, g 85, g 86, g 87, g 88, g 89, g 90, g 91, g 92, g 93, g 94, g 95, g 96, g 97, g 98, g 99, g 100, g 101, g 102, g 103, g 104, g 105, g 106, g 107, g 108, g 109, g 110, g 111, g 112, g 113, g 114, g 115, g 116, g 117, g 118, g 119, g 120, g 121, g 122, g 123, g 124, g 125, g 126, g 127, g 128, g 129, g 130, g 131, g 132, g 133, g 134, g 135, g 136, g 137, g 138, g 139, g 140, g 141, g 142, g 143, g 144, g 145, g 146, g 147, g 148, g 149, g 150, g 151, g 152, g 153, g 154, g 155, g 156, g 157, g 158, g 159, g 160, g 161, g 162, g 163, g 164, g 165, g 166, g 167, g 168, g 169, g 170, g 171, g 172, g 173, g 174, g 175, g 176, g 177, g 178, g 179, g 180, g 181, g 182, g 183, g 184, g 185, g 186, g 187, g 188, g 189, g 190, g 191, g 192, g 193, g 194, g 195, g 196, g 197, g 198, g 199, g 200, g 201, g 202], []⟩) (fun j wj => j ≤ rs.length ∧ Ext w8 wj)) (fun a _ => rs.length - (intOf (a.tmps.getD 15 undef)).toNat)
          (Rel1.intro 0 rfl ⟨Nat.zero_le _, Below.refl _ _⟩) ?_
        rintro a wj ⟨j, g, rfl, hj, hxj⟩
        have HXJ := Lib.hid hxj
        have HBJ := Lib.hid (HB8.out.ext hxj)
        have HCJ := Lib.hid (HC8.out.ext hxj)
        have y1 := HBJ.out.has 1 _ rfl
        rw [Nat.zero_add] at y1
        clear hxj
        by_cases hjt : j < rs.length
        · obtain ⟨gr, cr', her, hgr, hgrc⟩ := HRR.out.open1 (by omega)
          injection her with e1 e2 e3
          subst e1
          subst e3
          clear e2
          obtain ⟨x, hx⟩ : ∃ x, rs[j]? = some x := ⟨rs[j], List.getElem?_eq_getElem hjt⟩
          have hxm := List.mem_of_getElem? hx
          have hxr := HRNG.out x hxm
          have hnbn := HNB.out
          obtain ⟨xn, rfl⟩ : ∃ xn : Nat, x = xn := ⟨x.toNat, by omega⟩
          have hxn : xn < nb := by omega
          have yx := Has.one1 (hgrc j (xn : Int) hx) HXJ.out
          obtain ⟨gy, cy', hey, hgy, hgyc⟩ := HRY.out.open1 (by rw [HNE.out]; omega)
          rw [HNE.out] at hey
          injection hey with e1 e2 e3
          subst e1
          subst e3
          clear e2
          obtain ⟨q, hq⟩ : ∃ q, by'[xn]? = some q := ⟨by'[xn]'(by rw [HNE.out]; exact hxn), List.getElem?_eq_getElem _⟩
          have hqr := HBY.out q (List.mem_of_getElem? hq)
          have yq := Has.one1 (hgyc xn q hq) (HX8.out.trans HXJ.out)
          have hhg := HHG.out (xn : Int) hxm q (by simpa using hq)
          have HHQ := Lib.hid hhg
          clear hgr hgrc hgy hgyc hx hxm hxr hnbn hq hhg
          by_cases hqm : q = -1
          · subst hqm
            clear hqr HHQ
            go_wp2_with fail
            go_quiet (fail)
            go_wp2_with fail
            exact ⟨Rel1.intro (j + 1) rfl ⟨by omega, HXJ.out.drewN _⟩, by simp [intOf]; omega⟩
          · obtain ⟨m, rfl⟩ : ∃ m : Nat, q = m := ⟨q.toNat, by omega⟩
            have hmn : m < d.procs.length := by omega
            have hhq := HHQ.out (by omega)
            simp only [Int.toNat_natCast] at hhq
            have ym := comeL_cell HCJ.out hmn
            obtain ⟨t2, hhas, -⟩ := Procs.get HR.out hmn
            have yd := (hhas.ext (HXW.out.trans (HX8.out.trans HXJ.out))) 0 _ rfl
            rw [Nat.add_zero] at yd
            by_cases hcl : d.procs[m].clocked = true
            · rw [hcl] at yd
              have hm0 : decide ((0 : Int) ≤ (m : Int)) = true := by simp
              clear hhq ym hhas hcl hqm hqr
              go_wp2_with fail
              go_quiet (fail)
              go_wp2_with fail
              exact ⟨Rel1.intro (j + 1) rfl ⟨by omega, HXJ.out.drewN _⟩, by simp [intOf]; omega⟩
            · have hcf : d.procs[m].clocked = false := by simpa using hcl
              obtain ⟨hin, hll⟩ := hhq hmn hcf
              rw [hcf] at yd
              rw [decide_eq_true hin] at ym
              obtain ⟨gl, cl', hel, hgl, hglc⟩ := HRL.out.open1 (by rw [HLL.out]; omega)
              rw [HLL.out] at hel
              injection hel with e1 e2 e3
              subst e1
              subst e3
              clear e2
              obtain ⟨lq, hlq⟩ : ∃ x, lev[m]? = some x := ⟨lev[m]'(by rw [HLL.out]; exact hmn), List.getElem?_eq_getElem _⟩
              obtain ⟨lp, hlp⟩ : ∃ x, lev[k]? = some x := ⟨lev[k]'(by rw [HLL.out]; exact hpn), List.getElem?_eq_getElem _⟩
              rw [List.getD_eq_getElem?_getD, List.getD_eq_getElem?_getD, hlq, hlp] at hll
              have hll2 : lq < lp := hll
              have ylq := Has.one1 (hglc m lq hlq) (HX8.out.trans HXJ.out)
              have ylp := Has.one1 (hglc k lp hlp) (HX8.out.trans HXJ.out)
              have hm0 : decide ((0 : Int) ≤ (m : Int)) = true := by simp
              have hdl : decide (lp ≤ lq) = false := by simp; omega
              clear hhq hhas hcl hqm hqr hcf hin hll hlq hlp hgl hglc
              go_wp2_with fail
              go_quiet (fail)
              go_wp2_with fail
              exact ⟨Rel1.intro (j + 1) rfl ⟨by omega, HXJ.out.drewN _⟩, by simp [intOf]; omega⟩
        · obtain rfl : j = rs.length := by omega
          have yk := comeL_cell HCJ.out hpn
          have yf := HCJ.out.frozen k
          have hg := gb_set wj c k (.bool true)
          have hbs := blk_setB HCJ.out k true
          rw [← comeL_succ HP.out] at hbs
          have hxs : Ext w6 _ := Ext.grown (HX8.out.trans HXJ.out) hg (by rw [HC.out]; exact Nat.le_refl _)
          have HBS := Lib.hid hbs
          have HXS := Lib.hid hxs
          clear hbs hxs hg
          go_wp2_with fail
          exact ⟨Rel1.intro (i + 1) rfl ⟨by omega, HBS.out, HXS.out⟩, by simp [intOf]; omega⟩
      · obtain rfl : i = o.length := by omega
        go_wp2_with fail
        refine wp_loop (Rel1 (fun p g => ⟨#[g 0, .pointer (some ⟨w.heap.size, 0, Option.none⟩), g 2, .bool true, g 4, g 5, g 6, g 7, g 8, g 9, .slice (some ⟨c, 0, Option.none⟩) d.procs.length d.procs.length, g 11, g 12, g 13, g 14, g 15, g 16, .int .i64 (p : Int), g 18, g 19, g 20, g 21, g 22, g 23, g 24, g 25, g 26, g 27, g 28, g 29, g 30, g 31, g 32, g 33, g 34, g 35, g 36, g 37, g 38, g 39, g 40, g 41, g 42, g 43, g 44, g 45, g 46, g 47, g 48, g 49, g 50, g 51, g 52, g 53, g 54, g 55, g 56, g 57, g 58, g 59, g 60, g 61, g 62, g 63, g 64, g 65, g 66, g 67, g 68, g 69, g 70, g 71, g 72, g 73, g 74, g 75, g 76, g 77, g 78, g 79, g 80, g 81, g 82, g 83, g 84, g 85, g 86, g 87, g 88, g 89, g 90, g 91, g 92, g 93, g 94, g 95, g 96, g 97, g 98, g 99, g 100, g 101, g 102, g 103, g 104, g 105, g 106, g 107, g 108, g 109, g 110, g 111, g 112, g 113, g 114, g 115, g 116, g 117, g 118, g 119, g 120, g 121, g 122, g 123, g 124, g 125, g 126, g 127, g 128, g 129, g 130, g 131, g 132, g 133, g 134, g 135, g 136, g 137, g 138, g 139, g 140, g 141, g 142, g 143, g 144, g 145, g 146, g 147, g 148, g 149, g 150, g 151, g 152, g 153, g 154, g 155, g 156, g 157, g 158, g 159, g 160, g 161, g 162, g 163, g 164, g 165, g 166, g 167, g 168, g 169, g 170, g 171, g 172, g 173, g 174, g 175, g 176, g 177, g 178, g 179, g 180, g 181, g 182, g 183, g 184, g 185, g 186, g 187, g 188, g 189, g 190, g 191, g 192, g 193, g 194, g 195, g 196, g 197, g 198, g 199, g 200, g 201, g 202], []⟩) (fun p wq => p ≤ d.procs.length ∧ Ext wr wq)) (fun a _ => d.procs.length - (intOf (a.tmps.getD 17 undef)).toNat)
          (Rel1.intro 0 rfl ⟨Nat.zero_le _, Below.refl _ _⟩) ?_
        rintro a wq ⟨p, g, rfl, hp, hxq⟩
        have HXQ := Lib.hid hxq
        have HBQ := Lib.hid (HBR.out.ext hxq)
        have HCQ := Lib.hid (HBC.out.ext hxq)
        clear y1
        have y1 := HBQ.out.has 1 _ rfl
        rw [Nat.zero_add] at y1
        clear hxq
        by_cases hpt : p < d.procs.length
        · have yk := comeL_cell HCQ.out hpt
          rw [List.take_length] at yk
          obtain rfl := HA.out (by omega)
          obtain ⟨t1, hhas, -⟩ := Procs.get HR.out hpt
          have yc := (hhas.ext (HXW.out.trans (HXR.out.trans HXQ.out))) 0 _ rfl
          rw [Nat.add_zero] at yc
          by_cases hcl : d.procs[p].clocked = true
          · have hno : ¬ (p : Int) ∈ o := fun hm => by
              obtain ⟨ix, hix⟩ := List.getElem?_of_mem hm
              obtain ⟨-, _, h3, -⟩ := HBEH.out.inr ix (p : Int) hix
              simp only [Int.toNat_natCast] at h3
              rw [hcl] at h3; cases h3
            rw [decide_eq_false hno] at yk
            rw [hcl] at yc
            clear hno hcl hhas
            go_wp2_with fail
            go_quiet (fail)
            go_wp2_with fail
            exact ⟨Rel1.intro (p + 1) rfl ⟨by omega, HXQ.out.drewN _⟩, by simp [intOf]; omega⟩
          · have hcf : d.procs[p].clocked = false := by simpa using hcl
            rw [decide_eq_true (HBEH.out.all p hpt hcf)] at yk
            rw [hcf] at yc
            clear hcl hcf hhas
            go_wp2_with fail
            go_quiet (fail)
            go_wp2_with fail
            exact ⟨Rel1.intro (p + 1) rfl ⟨by omega, HXQ.out.drewN _⟩, by simp [intOf]; omega⟩
        · obtain rfl : p = d.procs.length := by omega
          go_wp2_with fail
          go_ret
          exact ⟨rfl, HXW.out.trans (HXR.out.trans HXQ.out)⟩
    · have hob := lookM_bad hl
      have hle : levD d = ((lookM d).1, []) := by unfold levD; rw [if_pos hl]
      rw [hob] at HOR
      rw [hle] at HLV
      obtain ⟨e, he⟩ : ∃ e, (lookM d).1 = e := ⟨_, rfl⟩
      rw [he] at hl HOR HLV
      have hbq : (e == 0) = false := by rw [beq_eq_false_iff_ne]; exact hl
      clear hl he hob hle
      go_upto_region 7 with (first | ((with_reducible show wpList _ _ _ ({ dst := _, op := Op.load 26 _, type := _, pos := _, after := _, guard := _ } :: _) _ _); refine wpList_load_has rfl 26 _ rfl rfl (HB2.out.has) agg_Flat rfl ?_) | (go_at_call 10; refine HFW.out.mono ?_; rintro r w3 ⟨rfl, hx3⟩; have HB3 := Lib.hid (HB2.out.ext hx3)) | ((with_reducible show wpList _ _ _ ({ dst := _, op := Op.load 26 _, type := _, pos := _, after := _, guard := _ } :: _) _ _); refine wpList_load_has rfl 26 _ rfl rfl (HB3.out.has) agg_Flat rfl ?_) | (go_at_call 16; refine (HOR.out _ hx3).mono ?_; rintro r w4 ⟨u4, rfl, hr4, hx4⟩; have HX4 := Lib.hid (hx3.trans hx4); have HB4 := Lib.hid (HB2.out.ext HX4.out)) | ((with_reducible show wpList _ _ _ ({ dst := _, op := Op.load 26 _, type := _, pos := _, after := _, guard := _ } :: _) _ _); refine wpList_load_has rfl 26 _ rfl rfl (HB4.out.has) agg_Flat rfl ?_) | (go_at_call 18; refine (HLV.out _ HX4.out).mono ?_; rintro r w5 ⟨u5, rfl, hr5, hx5⟩; have HX5 := Lib.hid (HX4.out.trans hx5); have HB5 := Lib.hid (HB2.out.ext HX5.out)) | ((with_reducible show wpList _ _ _ ({ dst := _, op := Op.load 26 _, type := _, pos := _, after := _, guard := _ } :: _) _ _); refine wpList_load_has rfl 26 _ rfl rfl (HB5.out.has) agg_Flat rfl ?_) | (go_at_call 11; refine (HDR.out _ HX5.out).mono ?_; rintro r w6 ⟨u6, rfl, hr6, hx6⟩))
      obtain ⟨ao, co, hu, -⟩ := hr4.open
      subst hu
      obtain ⟨al, cl, hu, -⟩ := hr5.open
      try simp only at hu
      subst hu
      have HX6 := Lib.hid (HX2.out.trans (HX5.out.trans hx6))
      clear hr4 hr5 hr6 hx3 hx4 hx5 hx6 HB3 HB4 HB5 HX4 HX5 HDR HOR HLV HFW HB2
      go_wp2_with fail
      go_ret
      exact ⟨rfl, HX6.out⟩
end Go.Proofs.YthpemngachlehaaGreat
