/- Laws and walks that a claim of this seat leans on: TurnL2. -/
import Derived.Test.YthpemngachlehaaGreatZ12
import Derived.Test.YthpemngachlehaaGreatZ00
set_option linter.all false
namespace Go.Proofs.YthpemngachlehaaGreat
open Go.RowKit

/-! ### plain: the order has all processes of wires, or has not -/
theorem ord_full {g : List (List Int)} {clk come : List Bool} {out : List Int} (ho : Ord g clk come out) (hcl : clk.length = g.length) (hw : wiresM clk ≤ out.length) :
  ∀ k : Nat, k < g.length → clk.getD k false = false → (k : Int) ∈ out := by
 have hwl := wires_list clk
 intro k hk hc
 refine nodup_full out (((List.range clk.length).filter fun p => !clk.getD p false).map fun (k : Nat) => (k : Int)) ho.nodup ?_ (by rw [List.length_map, hwl]; exact hw) (k : Int) ?_
 ·intro x hx
  obtain ⟨h1, h2, h3⟩ := ho.inr x hx
  refine List.mem_map.2 ⟨x.toNat, List.mem_filter.2 ⟨List.mem_range.2 (by omega), ?_⟩, by omega⟩
  rw [h3]; rfl
 ·exact List.mem_map.2 ⟨k, List.mem_filter.2 ⟨List.mem_range.2 (by omega), by rw [hc]; rfl⟩, rfl⟩
theorem ord_wires {g : List (List Int)} {clk : List Bool} {out : List Int} (hcl : clk.length = g.length) (hall : ∀ k : Nat, k < g.length → clk.getD k false = false → (k : Int) ∈ out) : wiresM clk ≤ out.length := by
 have hwl := wires_list clk
 have hle : (((List.range clk.length).filter fun k => !clk.getD k false).map fun (k : Nat) => (k : Int)).length ≤ out.length := by
  refine nodup_le _ _ ?_ ?_
  ·exact List.Pairwise.map _ (fun a b (h : a ≠ b) (e' : (a : Int) = (b : Int)) => h (by omega)) (List.Pairwise.filter _ List.nodup_range)
  ·intro x hx
   obtain ⟨k, hk, rfl⟩ := List.mem_map.1 hx
   obtain ⟨k1, k2⟩ := List.mem_filter.1 hk
   exact hall k (by rw [← hcl]; exact List.mem_range.1 k1) (by simpa using k2)
 rw [List.length_map, hwl] at hle
 exact hle
theorem ordM_ord (g : List (List Int)) (clk : List Bool) : ∃ come, Ord g clk come (ordM g clk) ∧ ∀ k, k < g.length → ready g clk come k = false := by
 exact orderM_spec g clk (g.length + 1) (List.replicate g.length false) [] (Ord.nil _ _) (by have := falses_le (List.replicate g.length false); simp at this; omega)
theorem clks_length (d : Flat) : (clks d).length = d.procs.length := by simp [clks]

/-! ### plain: what is wrong with a design told from behind is what was -/
theorem turn_none {d : Flat} (hok : d.ok) (hck : checkM d = 0) {o o' : List Int} (h : drvM (nBits d).toNat (wsM d) = some o) (h' : drvM (nBits (turn d)).toNat (wsM (turn d)) = some o')
  (hrel : ∀ i : Nat, i < (nBits d).toNat → ∀ k, k < d.procs.length → (o'[i]? = some (k : Int) ↔ o[i]? = some ((d.procs.length - 1 - k : Nat) : Int)))
  (hn : noneF d.signals o 0 d.signals = false) : noneF (turn d).signals o' 0 (turn d).signals = false := by
 have hdl := drvD_len hok hck h
 have hel := drvD_len (turn_ok hok) (turn_check hck) h'
 rw [turn_bits] at hel
 have hwd := checkM_w hck
 have hnbl := nBits_le hok hck
 have hsum : ∀ s, s < d.signals.length → 0 ≤ sumW d.signals s ∧ sumW d.signals s ≤ sumW d.signals (s + 1) ∧ sumW d.signals (s + 1) ≤ nBits d := fun s hs' =>
  ⟨(sumW_le d.signals hwd s (by omega)).1, sumW_mono d.signals hwd s (s + 1) (by omega) (by omega), sumW_mono d.signals hwd (s + 1) d.signals.length (by omega) (Nat.le_refl _)⟩
 refine noneF_mk (ls := d.signals) fun s hs hk hm => ?_
 obtain ⟨q1, q2, q3⟩ := hsum s hs
 obtain ⟨i, i1, i2, i3⟩ := (mem_subM q1 q2 _).1 hm
 refine noneF_false hn s hs hk ((mem_subM q1 q2 _).2 ⟨i, i1, i2, ?_⟩)
 have hib : i < o.length := by omega
 have hr := hdl.2 _ (List.getElem_mem hib)
 by_cases h0 : o[i] = -1
 ·rw [List.getElem?_eq_getElem hib, h0]
 ·exfalso
  have := (hrel i (by omega) (d.procs.length - 1 - o[i].toNat) (by omega)).2 (by
   rw [List.getElem?_eq_getElem hib]; congr 1; omega)
  rw [i3] at this
  injection this with this
  omega
theorem turn_lat {d : Flat} (hn : latF d 0 d.procs = false) : latF (turn d) 0 (turn d).procs = false := by
 refine latF_mk fun k hk hc => ?_
 rw [turn_get d hk] at hc
 rw [turn_len] at hk
 rw [turn_writes d hk, turn_always d hk]
 exact latF_false hn _ (by omega) hc
theorem turn_clks (d : Flat) {k : Nat} (hk : k < d.procs.length) : (clks (turn d)).getD k false = (clks d).getD (d.procs.length - 1 - k) false := by
 rw [clks_get (turn d) (by rw [turn_len]; exact hk), clks_get d (k := d.procs.length - 1 - k) (by omega), turn_get d (by rw [turn_len]; exact hk)]
theorem turn_ord {d : Flat} (hok : d.ok) (hck : checkM d = 0) {o o' : List Int} (h : drvM (nBits d).toNat (wsM d) = some o) (h' : drvM (nBits (turn d)).toNat (wsM (turn d)) = some o')
  (hrel : ∀ i : Nat, i < (nBits d).toNat → ∀ k, k < d.procs.length → (o'[i]? = some (k : Int) ↔ o[i]? = some ((d.procs.length - 1 - k : Nat) : Int)))
  (hn : wiresM (clks d) ≤ (ordM (graphM d o) (clks d)).length) : wiresM (clks (turn d)) ≤ (ordM (graphM (turn d) o') (clks (turn d))).length := by
 have hok' := turn_ok hok
 have hck' := turn_check hck
 have hol := drvD_len hok' hck' h'
 have hbt := turn_bits d
 obtain ⟨cd, hord, -⟩ := ordM_ord (graphM d o) (clks d)
 obtain ⟨ce, horde, hnre⟩ := ordM_ord (graphM (turn d) o') (clks (turn d))
 have hrank := ord_rank hord (ord_full hord (by rw [clks_length, graphM_length]) hn)
 have hgr := graphM_range hok' hck' hol.1 hol.2
 refine ord_wires (g := graphM (turn d) o') (by rw [clks_length, graphM_length]) ?_
 refine ord_all horde hnre (fun k => (ordM (graphM d o) (clks d)).idxOf ((d.procs.length - 1 - k : Nat) : Int)) (fun k hk hc' q hq => ?_)
 rw [graphM_length, turn_len] at hk
 rw [turn_clks d hk] at hc'
 have hgk := graphM_get (turn d) o' (k := k) (by rw [turn_len]; exact hk)
 rw [List.getD_eq_getElem?_getD, hgk] at hq
 simp only [Option.getD_some] at hq
 obtain ⟨q0, q1, b, q2, q3⟩ := (mem_hang _ _ _ _).1 hq
 have hqr := (hgr _ (List.mem_of_getElem? hgk)).2 q hq
 rw [graphM_length] at hqr ⊢
 refine ⟨q0, hqr.2, q1, ?_⟩
 rw [turn_len] at hqr
 have hb := readsM_range hok' hck' (p := (k : Int)) (by rw [turn_len]; simpa using hk) b q2
 rw [turn_reads d hk] at q2
 have hbi : b.toNat < o'.length := by omega
 have hq3 : o'[b.toNat]? = some ((q.toNat : Nat) : Int) := by
  rw [List.getD_eq_getElem?_getD, List.getElem?_eq_getElem hbi] at q3
  rw [List.getElem?_eq_getElem hbi]
  simp only [Option.getD_some] at q3
  rw [q3]; congr 1; omega
 have hq4 := (hrel b.toNat (by omega) q.toNat hqr.2).1 hq3
 rw [turn_clks d hqr.2] at q1
 have := hrank (d.procs.length - 1 - k) (by rw [graphM_length]; omega) hc' ((d.procs.length - 1 - q.toNat : Nat) : Int) (by
  rw [List.getD_eq_getElem?_getD, graphM_get d o (by omega)]
  simp only [Option.getD_some]
  rw [mem_hang]
  refine ⟨by omega, by rw [Int.toNat_natCast]; exact q1, b, q2, ?_⟩
  rw [List.getD_eq_getElem?_getD, hq4]; rfl)
 simpa using this

/-- in which order they are told does not matter -/
theorem turn_look {d : Flat} (hok : d.ok) : (lookM (turn d)).1 = (lookM d).1 := by
 by_cases hck : checkM d = 0
 ·have hck' := turn_check hck
  have hok' := turn_ok hok
  cases hd : drvM (nBits d).toNat (wsM d) with
  | none =>
   have he := turn_drv_none hok hck hd
   rw [lookM_err (d := d) (e := 120) (by unfold drvD; rw [if_pos hck, hd]) (by decide), lookM_err (d := turn d) (e := 120) (by unfold drvD; rw [if_pos hck', he]) (by decide)]
  | some o =>
   obtain ⟨o', he, hrel⟩ := turn_drv hok hck hd
   have hlen := turn_len d
   have hrel' : ∀ i : Nat, i < (nBits (turn d)).toNat → ∀ k, k < (turn d).procs.length → (o[i]? = some (k : Int) ↔ o'[i]? = some (((turn d).procs.length - 1 - k : Nat) : Int)) := fun i hi k hk => by
    rw [turn_bits] at hi
    rw [hlen] at hk ⊢
    have := hrel i hi (d.procs.length - 1 - k) (by omega)
    rw [this, show d.procs.length - 1 - (d.procs.length - 1 - k) = k by omega]
   have hd2 : drvM (nBits (turn (turn d))).toNat (wsM (turn (turn d))) = some o := by rw [turn_turn]; exact hd
   rw [lookM_ok (d := d) (by' := o) (by unfold drvD; rw [if_pos hck, hd]), lookM_ok (d := turn d) (by' := o') (by unfold drvD; rw [if_pos hck', he])]
   have h1 : noneF (turn d).signals o' 0 (turn d).signals = noneF d.signals o 0 d.signals := by
    cases e : noneF d.signals o 0 d.signals with
    | false => exact turn_none hok hck hd he hrel e
    | true =>
     cases e' : noneF (turn d).signals o' 0 (turn d).signals with
     | true => rfl
     | false =>
      have := turn_none hok' hck' he hd2 hrel' e'
      rw [turn_turn, e] at this; cases this
   have h2 : latF (turn d) 0 (turn d).procs = latF d 0 d.procs := by
    cases e : latF d 0 d.procs with
    | false => exact turn_lat e
    | true =>
     cases e' : latF (turn d) 0 (turn d).procs with
     | true => rfl
     | false =>
      have := turn_lat e'
      rw [turn_turn, e] at this; cases this
   have h3 : (ordM (graphM (turn d) o') (clks (turn d))).length < wiresM (clks (turn d)) ↔ (ordM (graphM d o) (clks d)).length < wiresM (clks d) := by
    rw [← Nat.not_le, ← Nat.not_le]
    refine not_congr ⟨fun h => ?_, fun h => turn_ord hok hck hd he hrel h⟩
    have := turn_ord hok' hck' he hd2 hrel' h
    rwa [turn_turn] at this
   rw [h1]
   unfold lookT
   rw [h2]
   by_cases e3 : (ordM (graphM d o) (clks d)).length < wiresM (clks d)
   ·rw [if_pos (h3.2 e3), if_pos e3]
   ·rw [if_neg (fun h => e3 (h3.1 h)), if_neg e3]
    split
    ·rfl
    ·split <;> rfl
 ·have hck' : checkM (turn d) ≠ 0 := fun h => hck ((turn_check_iff d).1 h)
  rw [lookM_err (d := d) (e := 1) (by unfold drvD; rw [if_neg hck]) (by decide), lookM_err (d := turn d) (e := 1) (by unfold drvD; rw [if_neg hck']) (by decide)]
/-- drivers are the same processes -/
theorem turn_drvD {d : Flat} (hok : d.ok) (hck : checkM d = 0) : (drvD (turn d)).1 = (drvD d).1 ∧ (drvD (turn d)).2.length = (drvD d).2.length ∧
  ∀ (i : Nat) (x y : Int), (drvD d).2[i]? = some x → (drvD (turn d)).2[i]? = some y → (x < 0 ∧ y = x) ∨ (0 ≤ x ∧ y = (d.procs.length : Int) - 1 - x) := by
 have hck' := turn_check hck
 have hok' := turn_ok hok
 cases hd : drvM (nBits d).toNat (wsM d) with
 | none =>
  have he := turn_drv_none hok hck hd
  unfold drvD
  rw [if_pos hck, hd, if_pos hck', he]
  exact ⟨rfl, rfl, fun i x y h => by simp at h⟩
 | some o =>
  obtain ⟨o', he, hrel⟩ := turn_drv hok hck hd
  have h1 := drvM_length hd
  have h2 := drvM_length he
  have hdl := drvD_len hok hck hd
  have hel := drvD_len hok' hck' he
  rw [turn_bits] at h2 hel
  rw [turn_len] at hel
  unfold drvD
  rw [if_pos hck, hd, if_pos hck', he]
  refine ⟨rfl, by simp only; omega, fun i x y hx hy => ?_⟩
  simp only at hx hy
  have hi : i < o.length := (List.getElem?_eq_some_iff.1 hx).1
  have hxr := hdl.2 x (List.mem_of_getElem? hx)
  have hyr := hel.2 y (List.mem_of_getElem? hy)
  by_cases h0 : x < 0
  ·left
   refine ⟨h0, ?_⟩
   have : y < 0 := Decidable.byContradiction fun hc => by
    have := (hrel i (by omega) y.toNat (by omega)).1 (by rw [hy]; congr 1; omega)
    rw [hx] at this
    injection this with this
    omega
   omega
  ·right
   refine ⟨by omega, ?_⟩
   have := (hrel i (by omega) (d.procs.length - 1 - x.toNat) (by omega)).2 (by rw [hx]; congr 1; omega)
   rw [hy] at this
   injection this with this
   omega
end Go.Proofs.YthpemngachlehaaGreat
