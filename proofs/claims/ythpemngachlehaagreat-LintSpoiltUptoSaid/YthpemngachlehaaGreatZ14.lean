/- Laws and walks that a claim of this seat leans on: BehindL. -/
import Derived.Test.YthpemngachlehaaGreatZ13
set_option linter.all false
namespace Go.Proofs.YthpemngachlehaaGreat
open Go.RowKit

/-! ### plain: each stands behind those on which it hangs -/
theorem ckL_spec (l : List Proc) : ∀ p q, q ∈ ckL p l ↔ ∃ i, ∃ h : i < l.length, q = ((p + i : Nat) : Int) ∧ l[i].clocked = true := by
  induction l with
  | nil => intro p q; simp [ckL]
  | cons x l ih =>
    intro p q
    have key : (∃ i, ∃ h : i < (x :: l).length, q = ((p + i : Nat) : Int) ∧ (x :: l)[i].clocked = true) ↔ (q = (p : Int) ∧ x.clocked = true) ∨ ∃ i, ∃ h : i < l.length, q = ((p + 1 + i : Nat) : Int) ∧ l[i].clocked = true := by
      constructor
      · rintro ⟨i, h, h1, h2⟩
        cases i with
        | zero => exact .inl ⟨by simpa using h1, by simpa using h2⟩
        | succ i => exact .inr ⟨i, by simpa using h, by rw [h1]; congr 1; omega, by simpa using h2⟩
      · rintro (⟨h1, h2⟩ | ⟨i, h, h1, h2⟩)
        · exact ⟨0, by simp, by simpa using h1, by simpa using h2⟩
        · exact ⟨i + 1, by simpa using h, by rw [h1]; congr 1; omega, by simpa using h2⟩
    rw [key, ckL]
    split
    · rename_i hc
      rw [List.mem_cons, ih]
      simp [hc]
    · rename_i hc
      rw [ih]
      simp [hc]
theorem ckL_lt (l : List Proc) : ∀ p, (ckL p l).Pairwise (· < ·) := by
  induction l with
  | nil => intro p; simp [ckL]
  | cons x l ih =>
    intro p
    rw [ckL]
    split
    · refine List.pairwise_cons.2 ⟨fun q hq => ?_, ih (p + 1)⟩
      have := ckL_mem l (p + 1) q hq
      omega
    · exact ih (p + 1)
theorem clks_get (d : Flat) {k : Nat} (hk : k < d.procs.length) : (clks d).getD k false = d.procs[k].clocked := by
  unfold clks; rw [List.getD_eq_getElem?_getD, List.getElem?_map, List.getElem?_eq_getElem hk]; rfl

/-- what a clean design's order and levels are -/
structure Behind (d : Flat) (by' o lev : List Int) : Prop where
  len : lev.length = d.procs.length
  olen : o.length ≤ d.procs.length
  inr : ∀ i p, o[i]? = some p → 0 ≤ p ∧ ∃ h : p.toNat < d.procs.length, d.procs[p.toNat].clocked = false ∧ p ∉ o.take i
  hang : ∀ i p, o[i]? = some p → ∀ r ∈ readsM d p, ∀ q, by'[r.toNat]? = some q → 0 ≤ q → ∀ h : q.toNat < d.procs.length, d.procs[q.toNat].clocked = false → q ∈ o.take i ∧ lev.getD q.toNat 0 < lev.getD p.toNat 0
  all : ∀ k (h : k < d.procs.length), d.procs[k].clocked = false → (k : Int) ∈ o

theorem behind {d : Flat} (hok : d.ok) (hl : (lookM d).1 = 0) {by' : List Int} (hd : drvD d = (0, by')) : Behind d by' (lookM d).2.2 (levD d).2 := by
  obtain ⟨hck, by2, hd2, hdm, hnone, hlat, hG, hO, hwo⟩ := lookM_zero hok hl
  have hbe : by2 = by' := by rw [hd] at hd2; injection hd2 with _ e; exact e.symm
  subst hbe
  have hlev : (levD d).2 = levs (graphM d by2) (ordM (graphM d by2) (clks d) ++ ckL 0 d.procs) (List.replicate (graphM d by2).length 0) := by
    unfold levD; rw [if_neg (by rw [hl]; decide), hG, hO]
  rw [hO, hlev]
  have hgl := graphM_length d by2
  have hbl := drvD_len hok hck hdm
  have hgr := graphM_range hok hck hbl.1 hbl.2
  obtain ⟨G, hGe⟩ : ∃ G, graphM d by2 = G := ⟨_, rfl⟩
  have hGget : ∀ k (hk : k < d.procs.length), G.getD k [] = hang1 by2 (clks d) (readsM d (k : Int)) [] := fun k hk => by
    rw [← hGe, List.getD_eq_getElem?_getD, graphM_get d by2 hk]; rfl
  rw [hGe] at hgl hgr hwo ⊢
  obtain ⟨come', hord, -⟩ := orderM_spec G (clks d) (G.length + 1) (List.replicate G.length false) [] (Ord.nil G (clks d)) (by have := falses_le (List.replicate G.length false); simp at this; omega)
  rw [show orderM G (clks d) (G.length + 1) (List.replicate G.length false) [] = ordM G (clks d) from rfl] at hord
  generalize ordM G (clks d) = o at *
  have hclk : ∀ p ∈ o, ∃ h : p.toNat < d.procs.length, d.procs[p.toNat].clocked = false := fun p hp => by
    obtain ⟨h1, h2, h3⟩ := hord.inr p hp
    have h : p.toNat < d.procs.length := by omega
    exact ⟨h, by rw [← clks_get d h]; exact h3⟩
  have hsub : ∀ x ∈ o, x ∈ ((List.range d.procs.length).map fun (k : Nat) => (k : Int)) := fun x hx => by
    obtain ⟨h1, h2, -⟩ := hord.inr x hx
    exact List.mem_map.2 ⟨x.toNat, List.mem_range.2 (by omega), by omega⟩
  have holen : o.length ≤ d.procs.length := by
    have := nodup_le o _ hord.nodup hsub
    simpa using this
  have hall : ∀ k (h : k < d.procs.length), d.procs[k].clocked = false → (k : Int) ∈ o := by
    have hw := wires_list (clks d)
    have hcl : (clks d).length = d.procs.length := by simp [clks]
    intro k hk hc
    refine nodup_full o (((List.range (clks d).length).filter fun p => !(clks d).getD p false).map fun (k : Nat) => (k : Int)) hord.nodup ?_ (by rw [List.length_map, hw]; exact hwo) (k : Int) ?_
    · intro x hx
      obtain ⟨h, h2⟩ := hclk x hx
      have h1 := (hord.inr x hx).1
      refine List.mem_map.2 ⟨x.toNat, List.mem_filter.2 ⟨List.mem_range.2 (by omega), ?_⟩, by omega⟩
      rw [clks_get d h, h2]; rfl
    · exact List.mem_map.2 ⟨k, List.mem_filter.2 ⟨List.mem_range.2 (by omega), by rw [clks_get d hk, hc]; rfl⟩, rfl⟩
  have hmemG : ∀ p : Int, p.toNat < d.procs.length → ∀ q ∈ G.getD p.toNat [], 0 ≤ q ∧ ∃ h : q.toNat < d.procs.length, d.procs[q.toNat].clocked = false := by
    intro p hp q hq
    rw [hGget p.toNat hp] at hq
    obtain ⟨h1, h2, -⟩ := (mem_hang _ _ _ _).1 hq
    have hlt : q.toNat < d.procs.length := by
      have h3 : G[p.toNat]? = some (hang1 by2 (clks d) (readsM d (p.toNat : Int)) []) := by rw [← hGe]; exact graphM_get d by2 hp
      have := (hgr _ (List.mem_of_getElem? h3)).2 q hq
      omega
    exact ⟨h1, hlt, by rw [← clks_get d hlt]; exact h2⟩
  have hck0 : ∀ q ∈ ckL 0 d.procs, 0 ≤ q ∧ ∃ h : q.toNat < d.procs.length, d.procs[q.toNat].clocked = true := by
    intro q hq
    obtain ⟨i, h, h1, h2⟩ := (ckL_spec _ _ _).1 hq
    have hqi : q.toNat = i := by omega
    refine ⟨by omega, by omega, ?_⟩
    simp only [hqi]; exact h2
  have hnd : (o ++ ckL 0 d.procs).Nodup := by
    rw [List.nodup_append]
    refine ⟨hord.nodup, lt_nodup (ckL_lt _ _), fun a ha b hb e => ?_⟩
    subst e
    obtain ⟨_, h2⟩ := hclk a ha
    obtain ⟨-, _, h4⟩ := hck0 a hb
    rw [h2] at h4; cases h4
  have hlevgt := levs_gt G (o ++ ckL 0 d.procs) (List.replicate G.length 0) (fun p hp => by
      rw [List.length_replicate, hgl]
      rcases List.mem_append.1 hp with hp | hp
      · obtain ⟨h, -⟩ := hclk p hp; exact ⟨(hord.inr p hp).1, h⟩
      · obtain ⟨h1, h2, -⟩ := hck0 p hp; exact ⟨h1, h2⟩) hnd (fun i p hp q hq p' hp' e => by
      have hpm := List.mem_of_getElem? hp
      have hpl : p.toNat < d.procs.length := by
        rcases List.mem_append.1 hpm with h | h
        · exact (hclk p h).1
        · exact (hck0 p h).2.1
      obtain ⟨hq0, hqlt, hqc⟩ := hmemG p hpl q hq
      have hp'0 : 0 ≤ p' := by
        rcases List.mem_append.1 (List.mem_of_mem_drop hp') with h | h
        · exact (hord.inr p' h).1
        · exact (hck0 p' h).1
      have hqp : q = p' := by omega
      subst hqp
      by_cases hi : i < o.length
      · rw [List.getElem?_append_left hi] at hp
        have h1 := hord.behind i p hp q hq
        rw [show ((q.toNat : Nat) : Int) = q by omega] at h1
        rw [List.drop_append_of_le_length (by omega)] at hp'
        have h2 := hord.nodup
        rw [← List.take_append_drop i o, List.nodup_append] at h2
        rcases List.mem_append.1 hp' with h | h
        · exact h2.2.2 q h1 q h rfl
        · obtain ⟨-, _, h4⟩ := hck0 q h
          rw [hqc] at h4; cases h4
      · have : q ∈ ckL 0 d.procs := by
          rw [List.drop_append, List.drop_of_length_le (by omega), List.nil_append] at hp'
          exact List.mem_of_mem_drop hp'
        obtain ⟨-, _, h4⟩ := hck0 q this
        rw [hqc] at h4; cases h4)
  refine ⟨by rw [levs_length, List.length_replicate, hgl], holen, fun i p hp => ?_, fun i p hp r hr q hq hq0 hqlt hqc => ?_, hall⟩
  · have hpm := List.mem_of_getElem? hp
    obtain ⟨h, h2⟩ := hclk p hpm
    refine ⟨(hord.inr p hpm).1, h, h2, fun hin => ?_⟩
    have hn := hord.nodup
    rw [← List.take_append_drop i o, List.nodup_append] at hn
    refine hn.2.2 p hin p ?_ rfl
    obtain ⟨hi, rfl⟩ := List.getElem?_eq_some_iff.1 hp
    exact (List.drop_eq_getElem_cons hi) ▸ List.mem_cons_self
  · have hpm := List.mem_of_getElem? hp
    obtain ⟨h, h2⟩ := hclk p hpm
    have hp0 := (hord.inr p hpm).1
    have hqG : q ∈ G.getD p.toNat [] := by
      rw [hGget p.toNat h, mem_hang]
      refine ⟨hq0, by rw [clks_get d hqlt]; exact hqc, r, by rw [show ((p.toNat : Nat) : Int) = p by omega]; exact hr, ?_⟩
      rw [List.getD_eq_getElem?_getD, hq]; rfl
    have h1 := hord.behind i p hp q hqG
    rw [show ((q.toNat : Nat) : Int) = q by omega] at h1
    exact ⟨h1, hlevgt p (by simp [hpm]) q hqG⟩
end Go.Proofs.YthpemngachlehaaGreat
