/- Laws and walks that a claim of this seat leans on: LawL, BehindL, SpoilL, SpoilL2, SpoilL3, SpoilL4, TurnL. -/
import Derived.Test.YthpemngachlehaaGreatZLint
import Derived.Test.YthpemngachlehaaGreatZ00
set_option linter.all false
namespace Go.Proofs.YthpemngachlehaaGreat
open Go.RowKit

/-! ### plain: what is always written is written -/
def WBit (offs : List Int) (l : List T) (x : Int) : Prop := ∃ t ∈ eachT.eachTs l, t.op = 1 ∧ ∃ j : Int, t.lo ≤ j ∧ j ≤ t.hi ∧ x = offs.getD t.sig.toNat 0 + j
theorem mem_spansW (offs : List Int) (l : List T) (x : Int) : x ∈ numbersM offs (spansW l) ↔ WBit offs l x := by
 rw [mem_numbersM]
 unfold spansW wS WBit
 rw [List.take_length]
 constructor
 ·rintro ⟨s, hs, j, h1, h2, h3⟩
  obtain ⟨t, ht, rfl⟩ := List.mem_map.1 hs
  obtain ⟨ht, ho⟩ := List.mem_filter.1 ht
  exact ⟨t, ht, by simpa using ho, j, h1, h2, h3⟩
 ·rintro ⟨t, ht, ho, j, h1, h2, h3⟩
  exact ⟨ownS t, List.mem_map.2 ⟨t, List.mem_filter.2 ⟨ht, by simp [ho]⟩, rfl⟩, j, h1, h2, h3⟩
theorem mem_eachTs {l : List T} {x : T} : x ∈ eachT.eachTs l ↔ ∃ t ∈ l, x ∈ eachT t := by
 rw [eachTs_eq, List.mem_flatten]
 constructor
 ·rintro ⟨m, hm, hx⟩
  obtain ⟨t, ht, rfl⟩ := List.mem_map.1 hm
  exact ⟨t, ht, hx⟩
 ·rintro ⟨t, ht, hx⟩
  exact ⟨_, List.mem_map.2 ⟨t, ht, rfl⟩, hx⟩
theorem wbit_mono {offs : List Int} {l : List T} {t : T} {x : Int} (ht : t ∈ l) (h : WBit offs t.l x) : WBit offs l x := by
 obtain ⟨u, hu, r⟩ := h
 exact ⟨u, mem_eachTs.2 ⟨t, ht, by rw [eachT_eq]; exact List.mem_cons_of_mem _ hu⟩, r⟩
theorem alt_sub (offs : List Int) (t : T) : (∀ x ∈ alt offs t, WBit offs [t] x) ∧ ∀ x ∈ alwM offs t.l, WBit offs t.l x := by
 induction t using T.ind with
 | h t ih =>
  have hm : ∀ x ∈ alwM offs t.l, WBit offs t.l x := by
   intro x hx
   unfold alwM at hx
   rw [setI_mem] at hx
   unfold alwP at hx
   obtain ⟨m, hm, hx⟩ := List.mem_flatten.1 hx
   obtain ⟨y, hy, rfl⟩ := List.mem_map.1 hm
   obtain ⟨u, hu, r⟩ := (ih y hy).1 x hx
   obtain ⟨z, hz, hu⟩ := mem_eachTs.1 hu
   rw [List.mem_singleton.1 hz] at hu
   exact ⟨u, mem_eachTs.2 ⟨y, hy, hu⟩, r⟩
  refine ⟨fun x hx => ?_, hm⟩
  rw [alt_eq] at hx
  split at hx
  ·rename_i h1
   obtain ⟨s, hs, j, h2, h3, h4⟩ := (mem_numbersM _ _ _).1 hx
   rw [List.mem_singleton.1 hs] at h2 h3 h4
   exact ⟨t, mem_eachTs.2 ⟨t, by simp, by rw [eachT_eq]; simp⟩, h1, j, h2, h3, h4⟩
  ·split at hx
   ·unfold metM at hx
    have hx := (List.mem_filter.1 hx).1
    cases hl : t.l with
    | nil => rw [hl] at hx; simp at hx
    | cons y r =>
     rw [hl] at hx
     simp only [List.map_cons, List.headD_cons] at hx
     have hy : y ∈ t.l := by rw [hl]; simp
     exact wbit_mono (by simp) (wbit_mono hy ((ih y hy).2 x hx))
   ·exact wbit_mono (by simp) (hm x hx)
theorem alwaysM_sub (d : Flat) (p : Int) : ∀ x ∈ alwaysM d p, x ∈ writesM d p := by
 intro x hx
 unfold writesM
 rw [mem_spansW]
 exact (alt_sub (offsD d) ⟨0, 0, 0, 0, [], procL d p⟩).2 x hx
theorem writes_always {d : Flat} {p : Int} (h : (writesM d p).length = (alwaysM d p).length) : ∀ x ∈ writesM d p, x ∈ alwaysM d p :=
 nodup_full _ _ (lt_nodup (setI_lt _)) (alwaysM_sub d p) (by omega)
theorem latF_false {d : Flat} (h : latF d 0 d.procs = false) : ∀ k (hk : k < d.procs.length), d.procs[k].clocked = false → (writesM d (k : Int)).length = (alwaysM d (k : Int)).length := by
 have key : ∀ (l : List Proc) (p : Nat), latF d p l = false → ∀ i (hi : i < l.length), l[i].clocked = false → (writesM d ((p + i : Nat) : Int)).length = (alwaysM d ((p + i : Nat) : Int)).length := by
  intro l
  induction l with
  | nil => intro p _ i hi; simp at hi
  | cons x l ih =>
   intro p h i hi hc
   rw [latF] at h
   split at h
   ·cases h
   ·rename_i hx
    cases i with
    | zero =>
     simp at hc
     simpa [hc] using hx
    | succ i =>
     have := ih (p + 1) h i (by simpa using hi) (by simpa using hc)
     rw [show p + (i + 1) = p + 1 + i by omega]
     exact this
 intro k hk hc
 simpa using key d.procs 0 h k hk hc
theorem noneF_false {d : Flat} {by' : List Int} (h : noneF d.signals by' 0 d.signals = false) : ∀ s (hs : s < d.signals.length), d.signals[s].kind = 2 ∨ d.signals[s].kind = 3 → (-1) ∉ subM d.signals by' s := by
 have key : ∀ (l : List Signal) (p : Nat), noneF d.signals by' p l = false → ∀ i (hi : i < l.length), l[i].kind = 2 ∨ l[i].kind = 3 → (-1) ∉ subM d.signals by' (p + i) := by
  intro l
  induction l with
  | nil => intro p _ i hi; simp at hi
  | cons x l ih =>
   intro p h i hi hc
   rw [noneF] at h
   split at h
   ·cases h
   ·rename_i hx
    cases i with
    | zero =>
     simp at hc
     simpa [hc] using hx
    | succ i =>
     have := ih (p + 1) h i (by simpa using hi) (by simpa using hc)
     rw [show p + (i + 1) = p + 1 + i by omega]
     exact this
 intro s hs hc
 simpa using key d.signals 0 h s hs hc

/-! ### plain: who may be written -/
def KindOk (ls : List Signal) (ck : Bool) (t : T) : Prop := t.op = 1 → kindOf ls t.sig ≠ 1 ∧ ck = decide (kindOf ls t.sig = 4)
theorem accum_zero {α β : Type} (f : Int → α → β × Int) (P : α → Prop) (l : List α) (h : ∀ x ∈ l, ∀ s, (f s x).2 = 0 → s = 0 ∧ P x) : ∀ s, (accum f s l).2 = 0 → s = 0 ∧ ∀ x ∈ l, P x := by
 induction l with
 | nil => intro s hs; exact ⟨hs, by simp⟩
 | cons x l ih =>
  intro s hs
  rw [accum] at hs
  obtain ⟨h1, h2⟩ := ih (fun y hy => h y (by simp [hy])) _ hs
  obtain ⟨h3, h4⟩ := h x (by simp) s h1
  refine ⟨h3, fun y hy => ?_⟩
  rcases List.mem_cons.1 hy with e | hy
  ·rw [e]; exact h4
  ·exact h2 y hy
theorem szE_zero (err w : Int) (e : E) (h : (szE err e w).2 = 0) : err = 0 := by
 unfold szE at h
 split at h
 ·exact h
 ·rename_i h0; simpa using h0
theorem szT_zero (ls : List Signal) (ck : Bool) (t : T) : ∀ lab err, (szT ls ck t lab err).2 = 0 → err = 0 ∧ ∀ x ∈ eachT t, KindOk ls ck x := by
 induction t using T.ind with
 | h t ih =>
  intro lab err h
  rw [szT_eq] at h
  simp only [szTL] at h
  obtain ⟨h1, h2⟩ := accum_zero _ (fun x => ∀ y ∈ eachT x, KindOk ls ck y) t.l (fun x hx s hs => ih x hx _ s hs) _ h
  unfold szEs at h1
  obtain ⟨h3, -⟩ := accum_zero _ (fun _ => True) t.e (fun x _ s hs => ⟨szE_zero s _ x hs, trivial⟩) _ h1
  unfold szErr0 at h3
  split at h3
  ·exact absurd h3 (by decide)
  ·rename_i hn
   refine ⟨h3, fun x hx => ?_⟩
   rw [eachT_eq] at hx
   rcases List.mem_cons.1 hx with e | hx
   ·rw [e]
    intro ho
    have hn' : ¬ (kindOf ls t.sig = 1 ∨ ck ≠ decide (kindOf ls t.sig = 4)) := fun hh => hn ⟨ho, h3, hh⟩
    refine ⟨fun e => hn' (.inl e), Decidable.byContradiction fun e => hn' (.inr e)⟩
   ·obtain ⟨y, hy, hx⟩ := mem_eachTs.1 hx
    exact h2 y hy x hx
theorem kinds_of_check {d : Flat} (h : checkM d = 0) : ∀ p ∈ d.procs, ∀ t ∈ eachT.eachTs p.l, KindOk d.signals p.clocked t := by
 have h0 : ∃ y, sizeD d = .ok y := by
  unfold checkM at h
  cases hs : sizeD d with
  | error g =>
   exfalso
   rw [hs] at h
   simp only at h
   subst h
   unfold sizeD at hs
   repeat' split at hs
   all_goals first | (cases hs; done) | (injection hs with hs; first | exact absurd hs (by decide) | (rename_i hne; exact hne hs))
  | ok y => exact ⟨y, rfl⟩
 obtain ⟨y, hy⟩ := h0
 have hz : (szCs (szPs d.signals 0 d.procs).2 d.checks).2 = 0 := by
  unfold sizeD at hy
  repeat' split at hy
  all_goals first | (cases hy; done) | skip
  rename_i hz
  simpa using hz
 unfold szCs at hz
 obtain ⟨h1, -⟩ := accum_zero (fun s (c : Chk) => ((⟨c.name, (szE s c.e (-1)).1⟩ : Chk), (szE s c.e (-1)).2)) (fun _ => True) d.checks (fun x _ s hs => ⟨szE_zero s (-1) x.e hs, trivial⟩) _ hz
 unfold szPs at h1
 obtain ⟨-, h2⟩ := accum_zero _ (fun p : Proc => ∀ t ∈ eachT.eachTs p.l, KindOk d.signals p.clocked t) d.procs (fun p _ s hs => by
  simp only [szTL] at hs
  obtain ⟨h3, h4⟩ := accum_zero _ (fun x => ∀ y ∈ eachT x, KindOk d.signals p.clocked y) p.l (fun x _ s hs => szT_zero _ _ x _ s hs) _ hs
  refine ⟨h3, fun t ht => ?_⟩
  obtain ⟨z, hz, ht⟩ := mem_eachTs.1 ht
  exact h4 z hz t ht) _ h1
 exact h2

/-! ### plain: each bit has one -/
theorem driven {d : Flat} (hok : d.ok) (hl : (lookM d).1 = 0) {by' : List Int} (hd : drvD d = (0, by')) : ∀ s (hs : s < d.signals.length) (i : Nat), sumW d.signals s ≤ i → (i : Int) < sumW d.signals (s + 1) →
  ∃ p, by'[i]? = some p ∧ -1 ≤ p ∧ p < d.procs.length ∧ (d.signals[s].kind = 1 → p = -1) ∧ (d.signals[s].kind = 4 → 0 ≤ p → ∃ h : p.toNat < d.procs.length, d.procs[p.toNat].clocked = true) ∧
   (d.signals[s].kind = 2 ∨ d.signals[s].kind = 3 → 0 ≤ p ∧ ∃ h : p.toNat < d.procs.length, d.procs[p.toNat].clocked = false ∧ (i : Int) ∈ alwaysM d p) := by
 obtain ⟨hck, by2, hd2, hdm, hnone, hlat, -⟩ := lookM_zero hok hl
 have hbe : by2 = by' := by rw [hd] at hd2; injection hd2 with _ e; exact e.symm
 subst hbe
 have hw := checkM_w hck
 intro s hs i h1 h2
 have hnb := nBits_le hok hck
 have hmono := sumW_mono d.signals hw (s + 1) d.signals.length (by omega) (Nat.le_refl _)
 have hin : i < (nBits d).toNat := by unfold nBits at *; omega
 have hlen := drvD_len hok hck hdm
 have hil : i < by2.length := by omega
 obtain ⟨p, hp⟩ : ∃ p, by2[i]? = some p := ⟨_, List.getElem?_eq_getElem hil⟩
 have hpr := hlen.2 p (List.mem_of_getElem? hp)
 -- a process that drives the bit assigns this signal
 have key : 0 ≤ p → ∃ h : p.toNat < d.procs.length, (i : Int) ∈ writesM d p ∧ kindOf d.signals s ≠ 1 ∧ d.procs[p.toNat].clocked = decide (kindOf d.signals s = 4) := by
  intro h0
  rcases drvM_get (wsM_range hok hck) hdm i hin with ⟨q1, -⟩ | ⟨k, l, q1, q2, q3, -⟩
  ·rw [hp] at q1; injection q1 with q1; omega
  ·rw [hp] at q3
   injection q3 with q3
   subst q3
   have hk : k < d.procs.length := by have := (List.getElem?_eq_some_iff.1 q1).1; rwa [wsM_length] at this
   have hle : l = writesM d (k : Int) := by
    unfold wsM at q1
    rw [List.getElem?_map, List.getElem?_range hk] at q1
    simpa using q1.symm
   subst hle
   refine ⟨by simpa using hk, q2, ?_⟩
   have q2' := q2
   unfold writesM at q2'
   rw [mem_spansW] at q2'
   obtain ⟨t, ht, ho, j, g1, g2, g3⟩ := q2'
   rw [procL_get (by simpa using hk)] at ht
   have hD := procD_of hok hck k hk
   simp only [Int.toNat_natCast] at ht ⊢
   have hsp := slice_span (((StD_iff _ _).1 (hD.each t ht)).1 ho)
   obtain ⟨r1, r2, r3⟩ := span_bits d.signals hsp g1 g2
   simp only at r1 r2 r3
   have hse : s = t.sig.toNat := by
    unfold offsD at g3
    exact sumW_uniq d.signals hw hs r1 h1 h2 (by omega) (by omega)
   have hko := kinds_of_check hck _ (List.getElem_mem hk) t ht ho
   have hsig : ((s : Nat) : Int) = t.sig := by have := hsp.1; simp only at this; omega
   rw [hsig]
   exact hko
 have hkind : kindOf d.signals (s : Int) = d.signals[s].kind := by
  unfold kindOf; rw [Int.toNat_natCast, List.getElem?_eq_getElem hs]
 rw [hkind] at key
 refine ⟨p, hp, hpr.1, hpr.2, fun hk => ?_, fun hk h0 => ?_, fun hk => ?_⟩
 ·refine Decidable.byContradiction fun hne => ?_
  obtain ⟨-, -, h3, -⟩ := key (by omega)
  exact h3 hk
 ·obtain ⟨h, -, -, h4⟩ := key h0
  exact ⟨h, by rw [h4, hk]; decide⟩
 ·have hp1 : p ≠ -1 := by
   rintro rfl
   have hb0 := (sumW_le d.signals hw s (by omega)).1
   refine noneF_false hnone s hs hk ?_
   unfold subM
   refine List.mem_of_getElem? (i := i - (sumW d.signals s).toNat) ?_
   rw [List.getElem?_take, if_pos (by omega), List.getElem?_drop, show (sumW d.signals s).toNat + (i - (sumW d.signals s).toNat) = i by omega]
   exact hp
  have h0 : 0 ≤ p := by omega
  obtain ⟨h, h2, -, h4⟩ := key h0
  have hcl : d.procs[p.toNat].clocked = false := by
   rw [h4]
   rcases hk with e | e <;> rw [e] <;> decide
  refine ⟨h0, h, hcl, ?_⟩
  have hlq := latF_false hlat p.toNat h hcl
  rw [show ((p.toNat : Nat) : Int) = p by omega] at hlq
  exact writes_always hlq _ h2

open Go.RowKit

/-! ### plain: each stands behind those on which it hangs -/
theorem ckL_spec (l : List Proc) : ∀ p q, q ∈ ckL p l ↔ ∃ i, ∃ h : i < l.length, q = ((p + i : Nat) : Int) ∧ l[i].clocked = true := by
 induction l with
 | nil => intro p q; simp [ckL]
 | cons x l ih =>
  intro p q
  have key : (∃ i, ∃ h : i < (x :: l).length, q = ((p + i : Nat) : Int) ∧ (x :: l)[i].clocked = true) ↔ (q = (p : Int) ∧ x.clocked = true) ∨ ∃ i, ∃ h : i < l.length, q = ((p + 1 + i : Nat) : Int) ∧ l[i].clocked = true := by
   constructor
   ·rintro ⟨i, h, h1, h2⟩
    cases i with
    | zero => exact .inl ⟨by simpa using h1, by simpa using h2⟩
    | succ i => exact .inr ⟨i, by simpa using h, by rw [h1]; congr 1; omega, by simpa using h2⟩
   ·rintro (⟨h1, h2⟩ | ⟨i, h, h1, h2⟩)
    ·exact ⟨0, by simp, by simpa using h1, by simpa using h2⟩
    ·exact ⟨i + 1, by simpa using h, by rw [h1]; congr 1; omega, by simpa using h2⟩
  rw [key, ckL]
  split
  ·rename_i hc
   rw [List.mem_cons, ih]
   simp [hc]
  ·rename_i hc
   rw [ih]
   simp [hc]
theorem ckL_lt (l : List Proc) : ∀ p, (ckL p l).Pairwise (· < ·) := by
 induction l with
 | nil => intro p; simp [ckL]
 | cons x l ih =>
  intro p
  rw [ckL]
  split
  ·refine List.pairwise_cons.2 ⟨fun q hq => ?_, ih (p + 1)⟩
   have := ckL_mem l (p + 1) q hq
   omega
  ·exact ih (p + 1)
theorem clks_get (d : Flat) {k : Nat} (hk : k < d.procs.length) : (clks d).getD k false = d.procs[k].clocked := by
 unfold clks; rw [List.getD_eq_getElem?_getD, List.getElem?_map, List.getElem?_eq_getElem hk]; rfl

/-- what a clean design's order and levels are -/
structure Behind (d : Flat) (by' o lev : List Int) : Prop where
 len : lev.length = d.procs.length
 olen : o.length ≤ d.procs.length
 inr : ∀ i p, o[i]? = some p → 0 ≤ p ∧ ∃ h : p.toNat < d.procs.length, d.procs[p.toNat].clocked = false ∧ p ∉ o.take i
 hang : ∀ i p, o[i]? = some p → ∀ r ∈ readsM d p, ∀ q, by'[r.toNat]? = some q → 0 ≤ q → ∀ h : q.toNat < d.procs.length, d.procs[q.toNat].clocked = false → q ∈ o.take i ∧ lev.getD q.toNat 0 < lev.getD p.toNat 0
 all : ∀ k (h : k < d.procs.length), d.procs[k].clocked = false → (k : Int) ∈ o

theorem behind {d : Flat} (hok : d.ok) (hl : (lookM d).1 = 0) {by' : List Int} (hd : drvD d = (0, by')) : Behind d by' (lookM d).2.2 (levD d).2 := by
 obtain ⟨hck, by2, hd2, hdm, hnone, hlat, hG, hO, hwo⟩ := lookM_zero hok hl
 have hbe : by2 = by' := by rw [hd] at hd2; injection hd2 with _ e; exact e.symm
 subst hbe
 have hlev : (levD d).2 = levs (graphM d by2) (ordM (graphM d by2) (clks d) ++ ckL 0 d.procs) (List.replicate (graphM d by2).length 0) := by
  unfold levD; rw [if_neg (by rw [hl]; decide), hG, hO]
 rw [hO, hlev]
 have hgl := graphM_length d by2
 have hbl := drvD_len hok hck hdm
 have hgr := graphM_range hok hck hbl.1 hbl.2
 obtain ⟨G, hGe⟩ : ∃ G, graphM d by2 = G := ⟨_, rfl⟩
 have hGget : ∀ k (hk : k < d.procs.length), G.getD k [] = hang1 by2 (clks d) (readsM d (k : Int)) [] := fun k hk => by
  rw [← hGe, List.getD_eq_getElem?_getD, graphM_get d by2 hk]; rfl
 rw [hGe] at hgl hgr hwo ⊢
 obtain ⟨come', hord, -⟩ := orderM_spec G (clks d) (G.length + 1) (List.replicate G.length false) [] (Ord.nil G (clks d)) (by have := falses_le (List.replicate G.length false); simp at this; omega)
 rw [show orderM G (clks d) (G.length + 1) (List.replicate G.length false) [] = ordM G (clks d) from rfl] at hord
 generalize ordM G (clks d) = o at *
 have hclk : ∀ p ∈ o, ∃ h : p.toNat < d.procs.length, d.procs[p.toNat].clocked = false := fun p hp => by
  obtain ⟨h1, h2, h3⟩ := hord.inr p hp
  have h : p.toNat < d.procs.length := by omega
  exact ⟨h, by rw [← clks_get d h]; exact h3⟩
 have hsub : ∀ x ∈ o, x ∈ ((List.range d.procs.length).map fun (k : Nat) => (k : Int)) := fun x hx => by
  obtain ⟨h1, h2, -⟩ := hord.inr x hx
  exact List.mem_map.2 ⟨x.toNat, List.mem_range.2 (by omega), by omega⟩
 have holen : o.length ≤ d.procs.length := by
  have := nodup_le o _ hord.nodup hsub
  simpa using this
 have hall : ∀ k (h : k < d.procs.length), d.procs[k].clocked = false → (k : Int) ∈ o := by
  have hw := wires_list (clks d)
  have hcl : (clks d).length = d.procs.length := by simp [clks]
  intro k hk hc
  refine nodup_full o (((List.range (clks d).length).filter fun p => !(clks d).getD p false).map fun (k : Nat) => (k : Int)) hord.nodup ?_ (by rw [List.length_map, hw]; exact hwo) (k : Int) ?_
  ·intro x hx
   obtain ⟨h, h2⟩ := hclk x hx
   have h1 := (hord.inr x hx).1
   refine List.mem_map.2 ⟨x.toNat, List.mem_filter.2 ⟨List.mem_range.2 (by omega), ?_⟩, by omega⟩
   rw [clks_get d h, h2]; rfl
  ·exact List.mem_map.2 ⟨k, List.mem_filter.2 ⟨List.mem_range.2 (by omega), by rw [clks_get d hk, hc]; rfl⟩, rfl⟩
 have hmemG : ∀ p : Int, p.toNat < d.procs.length → ∀ q ∈ G.getD p.toNat [], 0 ≤ q ∧ ∃ h : q.toNat < d.procs.length, d.procs[q.toNat].clocked = false := by
  intro p hp q hq
  rw [hGget p.toNat hp] at hq
  obtain ⟨h1, h2, -⟩ := (mem_hang _ _ _ _).1 hq
  have hlt : q.toNat < d.procs.length := by
   have h3 : G[p.toNat]? = some (hang1 by2 (clks d) (readsM d (p.toNat : Int)) []) := by rw [← hGe]; exact graphM_get d by2 hp
   have := (hgr _ (List.mem_of_getElem? h3)).2 q hq
   omega
  exact ⟨h1, hlt, by rw [← clks_get d hlt]; exact h2⟩
 have hck0 : ∀ q ∈ ckL 0 d.procs, 0 ≤ q ∧ ∃ h : q.toNat < d.procs.length, d.procs[q.toNat].clocked = true := by
  intro q hq
  obtain ⟨i, h, h1, h2⟩ := (ckL_spec _ _ _).1 hq
  have hqi : q.toNat = i := by omega
  refine ⟨by omega, by omega, ?_⟩
  simp only [hqi]; exact h2
 have hnd : (o ++ ckL 0 d.procs).Nodup := by
  rw [List.nodup_append]
  refine ⟨hord.nodup, lt_nodup (ckL_lt _ _), fun a ha b hb e => ?_⟩
  subst e
  obtain ⟨_, h2⟩ := hclk a ha
  obtain ⟨-, _, h4⟩ := hck0 a hb
  rw [h2] at h4; cases h4
 have hlevgt := levs_gt G (o ++ ckL 0 d.procs) (List.replicate G.length 0) (fun p hp => by
   rw [List.length_replicate, hgl]
   rcases List.mem_append.1 hp with hp | hp
   ·obtain ⟨h, -⟩ := hclk p hp; exact ⟨(hord.inr p hp).1, h⟩
   ·obtain ⟨h1, h2, -⟩ := hck0 p hp; exact ⟨h1, h2⟩) hnd (fun i p hp q hq p' hp' e => by
   have hpm := List.mem_of_getElem? hp
   have hpl : p.toNat < d.procs.length := by
    rcases List.mem_append.1 hpm with h | h
    ·exact (hclk p h).1
    ·exact (hck0 p h).2.1
   obtain ⟨hq0, hqlt, hqc⟩ := hmemG p hpl q hq
   have hp'0 : 0 ≤ p' := by
    rcases List.mem_append.1 (List.mem_of_mem_drop hp') with h | h
    ·exact (hord.inr p' h).1
    ·exact (hck0 p' h).1
   have hqp : q = p' := by omega
   subst hqp
   by_cases hi : i < o.length
   ·rw [List.getElem?_append_left hi] at hp
    have h1 := hord.behind i p hp q hq
    rw [show ((q.toNat : Nat) : Int) = q by omega] at h1
    rw [List.drop_append_of_le_length (by omega)] at hp'
    have h2 := hord.nodup
    rw [← List.take_append_drop i o, List.nodup_append] at h2
    rcases List.mem_append.1 hp' with h | h
    ·exact h2.2.2 q h1 q h rfl
    ·obtain ⟨-, _, h4⟩ := hck0 q h
     rw [hqc] at h4; cases h4
   ·have : q ∈ ckL 0 d.procs := by
     rw [List.drop_append, List.drop_of_length_le (by omega), List.nil_append] at hp'
     exact List.mem_of_mem_drop hp'
    obtain ⟨-, _, h4⟩ := hck0 q this
    rw [hqc] at h4; cases h4)
 refine ⟨by rw [levs_length, List.length_replicate, hgl], holen, fun i p hp => ?_, fun i p hp r hr q hq hq0 hqlt hqc => ?_, hall⟩
 ·have hpm := List.mem_of_getElem? hp
  obtain ⟨h, h2⟩ := hclk p hpm
  refine ⟨(hord.inr p hpm).1, h, h2, fun hin => ?_⟩
  have hn := hord.nodup
  rw [← List.take_append_drop i o, List.nodup_append] at hn
  refine hn.2.2 p hin p ?_ rfl
  obtain ⟨hi, rfl⟩ := List.getElem?_eq_some_iff.1 hp
  exact (List.drop_eq_getElem_cons hi) ▸ List.mem_cons_self
 ·have hpm := List.mem_of_getElem? hp
  obtain ⟨h, h2⟩ := hclk p hpm
  have hp0 := (hord.inr p hpm).1
  have hqG : q ∈ G.getD p.toNat [] := by
   rw [hGget p.toNat h, mem_hang]
   refine ⟨hq0, by rw [clks_get d hqlt]; exact hqc, r, by rw [show ((p.toNat : Nat) : Int) = p by omega]; exact hr, ?_⟩
   rw [List.getD_eq_getElem?_getD, hq]; rfl
  have h1 := hord.behind i p hp q hqG
  rw [show ((q.toNat : Nat) : Int) = q by omega] at h1
  exact ⟨h1, hlevgt p (by simp [hpm]) q hqG⟩

open Go.RowKit

/-! ### plain: a check of a design is a check of each process -/
theorem accum_zero_iff {α β : Type} (f : Int → α → β × Int) (hst : ∀ x s, (f s x).2 = 0 → s = 0) (l : List α) : ∀ s, (accum f s l).2 = 0 → s = 0 ∧ (∀ x ∈ l, (f 0 x).2 = 0) ∧ (accum f 0 l).1 = l.map fun x => (f 0 x).1 := by
 induction l with
 | nil => intro s hs; exact ⟨hs, by simp, rfl⟩
 | cons x l ih =>
  intro s hs
  rw [accum] at hs
  obtain ⟨h1, h2, h3⟩ := ih _ hs
  have h4 := hst x s h1
  subst h4
  refine ⟨rfl, fun y hy => ?_, ?_⟩
  ·rcases List.mem_cons.1 hy with e | hy
   ·rw [e]; exact h1
   ·exact h2 y hy
  ·rw [accum, List.map_cons, h1, h3]
theorem accum_zero_mk {α β : Type} (f : Int → α → β × Int) (l : List α) (h : ∀ x ∈ l, (f 0 x).2 = 0) : (accum f 0 l).2 = 0 ∧ (accum f 0 l).1 = l.map fun x => (f 0 x).1 := by
 induction l with
 | nil => exact ⟨rfl, rfl⟩
 | cons x l ih =>
  rw [accum]
  obtain ⟨h1, h2⟩ := ih fun y hy => h y (by simp [hy])
  rw [h x (by simp)]
  exact ⟨h1, by rw [h2]; rfl⟩
theorem allEq2_map {α : Type} (eq : α → α → Bool) (f : α → α) (l : List α) : allEq2 eq (l.map f) l = true ↔ ∀ x ∈ l, eq (f x) x = true := by
 induction l with
 | nil => simp [allEq2]
 | cons x l ih => simp [allEq2, ih]
abbrev fP (ls : List Signal) : Int → Proc → Proc × Int := fun s p => ((⟨p.clocked, (szTL ls p.clocked 0 s p.l).1⟩ : Proc), (szTL ls p.clocked 0 s p.l).2)
abbrev fC : Int → Chk → Chk × Int := fun s c => ((⟨c.name, (szE s c.e (-1)).1⟩ : Chk), (szE s c.e (-1)).2)
theorem fP_st (ls : List Signal) (p : Proc) (s : Int) (h : (fP ls s p).2 = 0) : s = 0 := by
 simp only [fP, szTL] at h
 exact (accum_zero _ (fun _ => True) p.l (fun x _ s hs => ⟨(szT_zero _ _ x _ s hs).1, trivial⟩) _ h).1
theorem fC_st (c : Chk) (s : Int) (h : (fC s c).2 = 0) : s = 0 := szE_zero s (-1) c.e h
theorem checkM_iff (d : Flat) : checkM d = 0 ↔ fitsM d = true ∧ shapedM d = true ∧ (d.signals.any fun s => !holds s.w s.init) = false ∧
  (∀ p ∈ d.procs, (fP d.signals 0 p).2 = 0 ∧ eqP (fP d.signals 0 p).1 p = true) ∧ (∀ c ∈ d.checks, (fC 0 c).2 = 0 ∧ eqC (fC 0 c).1 c = true) := by
 constructor
 ·intro h
  have hok : ∃ y, sizeD d = .ok y := by
   unfold checkM at h
   cases hs : sizeD d with
   | error g =>
    exfalso
    rw [hs] at h
    simp only at h
    subst h
    unfold sizeD at hs
    repeat' split at hs
    all_goals first | (cases hs; done) | (injection hs with hs; first | exact absurd hs (by decide) | (rename_i hne; exact hne hs))
   | ok y => exact ⟨y, rfl⟩
  obtain ⟨y, hy⟩ := hok
  have hs : (sameProcs y.procs d.procs && sameChecks y.checks d.checks) = true := by
   unfold checkM at h
   rw [hy] at h
   simp only at h
   split at h
   ·assumption
   ·exact absurd h (by decide)
  unfold sizeD at hy
  split at hy
  ·cases hy
  split at hy
  ·cases hy
  split at hy
  ·cases hy
  split at hy
  ·cases hy
  rename_i h1 h2 h3 h4
  injection hy with hy
  subst hy
  have h4' : (szCs (szPs d.signals 0 d.procs).2 d.checks).2 = 0 := by simpa using h4
  obtain ⟨h5, h6, h7⟩ := accum_zero_iff fC fC_st d.checks _ h4'
  obtain ⟨-, h8, h9⟩ := accum_zero_iff (fP d.signals) (fP_st d.signals) d.procs 0 h5
  rw [Bool.and_eq_true] at hs
  obtain ⟨hs1, hs2⟩ := hs
  simp only at hs1 hs2
  unfold sameProcs at hs1
  unfold sameChecks at hs2
  rw [show (szPs d.signals 0 d.procs).1 = d.procs.map fun x => (fP d.signals 0 x).1 from h9, allEq2_map] at hs1
  rw [h5] at hs2
  rw [show (szCs 0 d.checks).1 = d.checks.map fun x => (fC 0 x).1 from h7, allEq2_map] at hs2
  exact ⟨by simpa using h1, by simpa using h2, by simpa using h3, fun p hp => ⟨h8 p hp, hs1 p hp⟩, fun c hc => ⟨h6 c hc, hs2 c hc⟩⟩
 ·rintro ⟨h1, h2, h3, h4, h5⟩
  obtain ⟨q1, q2⟩ := accum_zero_mk (fP d.signals) d.procs fun p hp => (h4 p hp).1
  obtain ⟨q3, q4⟩ := accum_zero_mk fC d.checks fun p hp => (h5 p hp).1
  have e1 : (szPs d.signals 0 d.procs).2 = 0 := q1
  have e2 : (szPs d.signals 0 d.procs).1 = d.procs.map fun x => (fP d.signals 0 x).1 := q2
  have e3 : (szCs 0 d.checks).2 = 0 := q3
  have e4 : (szCs 0 d.checks).1 = d.checks.map fun x => (fC 0 x).1 := q4
  have : sizeD d = .ok ⟨d.signals, d.procs.map (fun x => (fP d.signals 0 x).1), d.checks.map fun x => (fC 0 x).1⟩ := by
   unfold sizeD
   rw [if_neg (by rw [h1]; decide), if_neg (by rw [h2]; decide), if_neg (by rw [h3]; decide), e1, if_neg (by rw [e3]; decide), e2, e4]
  unfold checkM
  rw [this]
  simp only
  rw [if_pos]
  rw [Bool.and_eq_true]
  exact ⟨(allEq2_map _ _ _).2 fun p hp => (h4 p hp).2, (allEq2_map _ _ _).2 fun c hc => (h5 c hc).2⟩
/-- a check of a design whose processes are all of a checked one's -/
theorem checkM_procs {d : Flat} (h : checkM d = 0) {l : List Proc} (hl : ∀ p ∈ l, p ∈ d.procs) (hf : fitsM ⟨d.signals, l, d.checks⟩ = true) : checkM ⟨d.signals, l, d.checks⟩ = 0 := by
 obtain ⟨h1, h2, h3, h4, h5⟩ := (checkM_iff d).1 h
 refine (checkM_iff _).2 ⟨hf, ?_, h3, fun p hp => h4 p (hl p hp), h5⟩
 unfold shapedM at h2 ⊢
 simp only [Bool.and_eq_true, Bool.not_eq_true', List.any_eq_false] at h2 ⊢
 exact ⟨⟨h2.1.1, fun p hp => h2.1.2 p (hl p hp)⟩, h2.2⟩

open Go.RowKit

/-! ### plain: drivers when each bit has at most one -/
theorem drv1_some (p : Int) (l : List Int) : ∀ out : List Int, l.Nodup → (∀ b ∈ l, 0 ≤ b ∧ b < out.length ∧ out.getD b.toNat 0 < 0) → ∃ o, drv1 p l out = some o := by
 induction l with
 | nil => intro out _ _; exact ⟨out, rfl⟩
 | cons b l ih =>
  intro out hn hb
  obtain ⟨b0, b1, b2⟩ := hb b (by simp)
  rw [drv1, if_neg (by omega)]
  rw [List.nodup_cons] at hn
  refine ih _ hn.2 fun c hc => ?_
  obtain ⟨c0, c1, c2⟩ := hb c (by simp [hc])
  refine ⟨c0, by rw [List.length_set]; exact c1, ?_⟩
  have hne : b.toNat ≠ c.toNat := fun e => hn.1 (by rw [show b = c by omega]; exact hc)
  rw [List.getD_eq_getElem?_getD, List.getElem?_set_ne hne, ← List.getD_eq_getElem?_getD]
  exact c2
theorem drvs_some (ws : List (List Int)) : ∀ (p : Nat) (out : List Int), (∀ l ∈ ws, l.Nodup ∧ ∀ b ∈ l, 0 ≤ b ∧ b < out.length ∧ out.getD b.toNat 0 < 0) →
  (∀ (i j : Nat) (l l' : List Int) (b : Int), ws[i]? = some l → ws[j]? = some l' → b ∈ l → b ∈ l' → i = j) → ∃ o, drvs p ws out = some o := by
 induction ws with
 | nil => intro p out _ _; exact ⟨out, rfl⟩
 | cons l ws ih =>
  intro p out hb hd
  obtain ⟨o1, h1⟩ := drv1_some (p : Int) l out (hb l (by simp)).1 (hb l (by simp)).2
  rw [drvs, h1]
  have hl1 := drv1_length _ _ _ _ h1
  obtain ⟨g1, g2⟩ := drv1_get p (by omega) l out o1 (fun b hb' => ⟨((hb l (by simp)).2 b hb').1, ((hb l (by simp)).2 b hb').2.1⟩) h1
  refine ih (p + 1) o1 (fun l' hl' => ⟨(hb l' (by simp [hl'])).1, fun b hbl => ?_⟩) (fun i j a a' b h2 h3 h4 h5 => by
   have := hd (i + 1) (j + 1) a a' b (by simpa using h2) (by simpa using h3) h4 h5
   omega)
  obtain ⟨q1, q2, q3⟩ := (hb l' (by simp [hl'])).2 b hbl
  obtain ⟨k, hk⟩ := List.getElem?_of_mem hl'
  have hnot : ((b.toNat : Nat) : Int) ∉ l := fun hm => by
   rw [show ((b.toNat : Nat) : Int) = b by omega] at hm
   have := hd 0 (k + 1) l l' b rfl (by simpa using hk) hm hbl
   omega
  refine ⟨q1, by omega, ?_⟩
  rw [List.getD_eq_getElem?_getD, g2 b.toNat hnot, ← List.getD_eq_getElem?_getD]
  exact q3
theorem drvM_some {n : Nat} {ws : List (List Int)} (hb : ∀ l ∈ ws, l.Nodup ∧ ∀ b ∈ l, 0 ≤ b ∧ b < n) (hd : ∀ (i j : Nat) (l l' : List Int) (b : Int), ws[i]? = some l → ws[j]? = some l' → b ∈ l → b ∈ l' → i = j) : ∃ o, drvM n ws = some o := by
 refine drvs_some ws 0 _ (fun l hl => ⟨(hb l hl).1, fun b hbl => ?_⟩) hd
 obtain ⟨h1, h2⟩ := (hb l hl).2 b hbl
 refine ⟨h1, by simpa using h2, ?_⟩
 rw [List.getD_eq_getElem?_getD, List.getElem?_replicate, if_pos (by omega)]
 simp
theorem drvM_disj {n : Nat} {ws : List (List Int)} {o : List Int} (hb : ∀ l ∈ ws, ∀ b ∈ l, 0 ≤ b ∧ b < n) (h : drvM n ws = some o) : ∀ (i j : Nat) (l l' : List Int) (b : Int), ws[i]? = some l → ws[j]? = some l' → b ∈ l → b ∈ l' → i = j := by
 intro i j l l' b h1 h2 h3 h4
 obtain ⟨b0, b1⟩ := hb l (List.mem_of_getElem? h1) b h3
 obtain ⟨k, rfl⟩ : ∃ k : Nat, b = k := ⟨b.toNat, by omega⟩
 rcases drvM_get hb h k (by omega) with ⟨-, q⟩ | ⟨m, a, -, -, -, q⟩
 ·exact absurd h3 (q l (List.mem_of_getElem? h1))
 ·rw [q i l h1 h3, q j l' h2 h4]

/-! ### plain: one process more -/
theorem wsM_get {d : Flat} {k : Nat} (hk : k < d.procs.length) : (wsM d)[k]? = some (writesM d (k : Int)) := by
 simp [wsM, List.getElem?_range, hk]
theorem writesM_same {d e : Flat} (hs : e.signals = d.signals) {i j : Nat} (hi : i < e.procs.length) (hj : j < d.procs.length) (h : e.procs[i] = d.procs[j]) : writesM e (i : Int) = writesM d (j : Int) := by
 unfold writesM offsD
 rw [hs, procL_get (d := e) (p := (i : Int)) (by simpa using hi), procL_get (d := d) (p := (j : Int)) (by simpa using hj)]
 simp only [Int.toNat_natCast, h]

open Go.RowKit

/-! ### plain: one process less -/
theorem drvM_iff {n : Nat} {ws : List (List Int)} {o : List Int} (hb : ∀ l ∈ ws, ∀ b ∈ l, 0 ≤ b ∧ b < n) (h : drvM n ws = some o) (i : Nat) (hi : i < n) (k : Nat) : o[i]? = some (k : Int) ↔ ∃ l, ws[k]? = some l ∧ (i : Int) ∈ l := by
 rcases drvM_get hb h i hi with ⟨h1, h2⟩ | ⟨m, l, h1, h2, h3, h4⟩
 ·constructor
  ·intro h3; rw [h1] at h3; injection h3 with h3; omega
  ·rintro ⟨l, hl, hm⟩; exact absurd hm (h2 l (List.mem_of_getElem? hl))
 ·constructor
  ·intro h5
   rw [h3] at h5
   injection h5 with h5
   obtain rfl : m = k := by omega
   exact ⟨l, h1, h2⟩
  ·rintro ⟨l', hl, hm⟩
   rw [h4 k l' hl hm]; exact h3
theorem noneF_mk {ls : List Signal} {by' : List Int} (h : ∀ s (hs : s < ls.length), ls[s].kind = 2 ∨ ls[s].kind = 3 → (-1) ∉ subM ls by' s) : noneF ls by' 0 ls = false := by
 have key : ∀ (l : List Signal) (p : Nat), (∀ i (hi : i < l.length), l[i].kind = 2 ∨ l[i].kind = 3 → (-1) ∉ subM ls by' (p + i)) → noneF ls by' p l = false := by
  intro l
  induction l with
  | nil => intro p _; rfl
  | cons x l ih =>
   intro p hh
   rw [noneF, if_neg]
   ·refine ih (p + 1) fun i hi hc => ?_
    have := hh (i + 1) (by simpa using hi) (by simpa using hc)
    rwa [show p + (i + 1) = p + 1 + i by omega] at this
   ·intro hc
    simp only [Bool.and_eq_true, Bool.or_eq_true, decide_eq_true_eq, List.contains_iff_mem] at hc
    exact hh 0 (by simp) (by simpa using hc.1) (by simpa using hc.2)
 exact key ls 0 (by simpa using h)
theorem latF_mk {d : Flat} (h : ∀ k (hk : k < d.procs.length), d.procs[k].clocked = false → (writesM d (k : Int)).length = (alwaysM d (k : Int)).length) : latF d 0 d.procs = false := by
 have key : ∀ (l : List Proc) (p : Nat), (∀ i (hi : i < l.length), l[i].clocked = false → (writesM d ((p + i : Nat) : Int)).length = (alwaysM d ((p + i : Nat) : Int)).length) → latF d p l = false := by
  intro l
  induction l with
  | nil => intro p _; rfl
  | cons x l ih =>
   intro p hh
   rw [latF, if_neg]
   ·refine ih (p + 1) fun i hi hc => ?_
    have := hh (i + 1) (by simpa using hi) (by simpa using hc)
    rwa [show p + (i + 1) = p + 1 + i by omega] at this
   ·intro hc
    simp only [Bool.and_eq_true, Bool.not_eq_true', decide_eq_false_iff_not] at hc
    exact hc.2 (hh 0 (by simp) (by simpa using hc.1))
 exact key d.procs 0 (by simpa using h)
theorem mem_subM {ls : List Signal} {o : List Int} {s : Nat} (h0 : 0 ≤ sumW ls s) (h1 : sumW ls s ≤ sumW ls (s + 1)) (x : Int) : x ∈ subM ls o s ↔ ∃ i : Nat, sumW ls s ≤ i ∧ (i : Int) < sumW ls (s + 1) ∧ o[i]? = some x := by
 unfold subM
 rw [List.mem_iff_getElem?]
 constructor
 ·rintro ⟨i, hi⟩
  rw [List.getElem?_take] at hi
  split at hi
  ·rw [List.getElem?_drop] at hi
   exact ⟨_, by omega, by omega, hi⟩
  ·cases hi
 ·rintro ⟨i, h2, h3, h4⟩
  refine ⟨i - (sumW ls s).toNat, ?_⟩
  rw [List.getElem?_take, if_pos (by omega), List.getElem?_drop, show (sumW ls s).toNat + (i - (sumW ls s).toNat) = i by omega]
  exact h4
theorem sumW_find (ls : List Signal) (i : Int) (h0 : 0 ≤ i) : ∀ n, n ≤ ls.length → i < sumW ls n → ∃ s, s < n ∧ sumW ls s ≤ i ∧ i < sumW ls (s + 1) := by
 intro n
 induction n with
 | zero => intro _ h; exfalso; simp [sumW] at h; omega
 | succ n ih =>
  intro hn h
  by_cases hlt : i < sumW ls n
  ·obtain ⟨s, h1, h2⟩ := ih (by omega) hlt
   exact ⟨s, by omega, h2⟩
  ·exact ⟨n, by omega, by omega, h⟩
theorem sigsOk_kind (l : List Signal) : ∀ seen, sigsOk seen l = true → ∀ x ∈ l, 1 ≤ x.kind ∧ x.kind ≤ 4 := by
 induction l with
 | nil => intro _ _ x hx; cases hx
 | cons y l ih =>
  intro seen h x hx
  rw [sigsOk, Bool.and_eq_true] at h
  rcases List.mem_cons.1 hx with e | hx
  ·have := h.1
   unfold sigOk at this
   simp only [Bool.and_eq_true, decide_eq_true_eq] at this
   rw [e]
   exact ⟨this.1.1.2, this.1.2⟩
  ·exact ih _ h.2 x hx

/-- the place in the whole of a process of what is left -/
def ren (p k : Nat) : Nat := if k < p then k else k + 1
theorem ren_ne (p k : Nat) : ren p k ≠ p := by unfold ren; split <;> omega
theorem ren_inj {p i j : Nat} (h : ren p i = ren p j) : i = j := by unfold ren at h; split at h <;> split at h <;> omega
theorem ren_lt {p k n : Nat} (hp : p < n) (h : k < n - 1) : ren p k < n := by unfold ren; split <;> omega
theorem ren_back {p q n : Nat} (hp : p < n) (hq : q < n) (h : q ≠ p) : ∃ k, k < n - 1 ∧ ren p k = q := by
 by_cases hlt : q < p
 ·exact ⟨q, by omega, by unfold ren; rw [if_pos hlt]⟩
 ·exact ⟨q - 1, by omega, by unfold ren; rw [if_neg (by omega)]; omega⟩

theorem less_ok {d e : Flat} (hok : d.ok) (hl : (lookM d).1 = 0) {p : Nat} (hp : p < d.procs.length) (hw : writesM d (p : Int) ≠ []) (hs : e.signals = d.signals) (hpr : e.procs = d.procs.take p ++ d.procs.drop (p + 1)) (hch : e.checks = d.checks) (heok : e.ok) (hf : fitsM e = true) :
  (lookM e).1 = if d.procs[p].clocked = true then 0 else 121 := by
 obtain ⟨hck, by', hd, hdm, hnone, hlat, hG, hO, hwo⟩ := lookM_zero hok hl
 have hdr := driven hok hl hd
 have hwd := checkM_w hck
 have hc2 : checkM e = 0 := by
  obtain ⟨a, b, c⟩ := e
  simp only at hs hpr hch
  subst hs hch
  refine checkM_procs hck (fun x hx => ?_) hf
  rw [hpr] at hx
  rcases List.mem_append.1 hx with h | h
  ·exact List.mem_of_mem_take h
  ·exact List.mem_of_mem_drop h
 have hlen : e.procs.length = d.procs.length - 1 := by rw [hpr]; simp; omega
 have hget : ∀ k (hk : k < e.procs.length), e.procs[k] = d.procs[ren p k]'(ren_lt hp (by omega)) := by
  intro k hk
  have h1 : e.procs[k]? = d.procs[ren p k]? := by
   rw [hpr]
   by_cases hlt : k < p
   ·rw [List.getElem?_append_left (by simp; omega), List.getElem?_take, if_pos hlt]; unfold ren; rw [if_pos hlt]
   ·rw [List.getElem?_append_right (by simp; omega), List.getElem?_drop]; unfold ren; rw [if_neg hlt]; congr 1; simp; omega
  rw [List.getElem?_eq_getElem hk, List.getElem?_eq_getElem (ren_lt hp (by omega))] at h1
  exact Option.some.inj h1
 have hrl : ∀ k, k < e.procs.length → ren p k < d.procs.length := fun k hk => ren_lt hp (by omega)
 have hW : ∀ k, k < e.procs.length → writesM e (k : Int) = writesM d ((ren p k : Nat) : Int) := fun k hk => writesM_same hs hk (hrl k hk) (hget k hk)
 have hpl : ∀ k, k < e.procs.length → procL e (k : Int) = procL d ((ren p k : Nat) : Int) := fun k hk => by
  rw [procL_get (d := e) (p := (k : Int)) (by simpa using hk), procL_get (d := d) (p := ((ren p k : Nat) : Int)) (by simpa using hrl k hk)]
  simp only [Int.toNat_natCast, hget k hk]
 have hRd : ∀ k, k < e.procs.length → readsM e (k : Int) = readsM d ((ren p k : Nat) : Int) := fun k hk => by
  unfold readsM offsD; rw [hs, hpl k hk]
 have hAl : ∀ k, k < e.procs.length → alwaysM e (k : Int) = alwaysM d ((ren p k : Nat) : Int) := fun k hk => by
  unfold alwaysM offsD; rw [hs, hpl k hk]
 have hclk : ∀ k (hk : k < e.procs.length), e.procs[k].clocked = (d.procs[ren p k]'(hrl k hk)).clocked := fun k hk => by rw [hget k hk]
 have hnb : nBits e = nBits d := by unfold nBits; rw [hs]
 have hrgd := wsM_range hok hck
 have hrge := wsM_range heok hc2
 -- the drivers of what is left
 obtain ⟨o3, ho3⟩ : ∃ o, drvM (nBits e).toNat (wsM e) = some o := by
  refine drvM_some (fun l hl' => ⟨?_, hrge l hl'⟩) ?_
  ·obtain ⟨k, hk, rfl⟩ := List.mem_map.1 hl'
   exact lt_nodup (numbersM_lt _ _ : (writesM e (k : Int)).Pairwise (· < ·))
  ·intro i j l l' b h1 h2 h3 h4
   have hi : i < e.procs.length := by have := (List.getElem?_eq_some_iff.1 h1).1; rwa [wsM_length] at this
   have hj : j < e.procs.length := by have := (List.getElem?_eq_some_iff.1 h2).1; rwa [wsM_length] at this
   rw [wsM_get hi, hW i hi] at h1
   rw [wsM_get hj, hW j hj] at h2
   injection h1 with h1
   injection h2 with h2
   subst h1 h2
   exact ren_inj (drvM_disj hrgd hdm _ _ _ _ b (wsM_get (hrl i hi)) (wsM_get (hrl j hj)) h3 h4)
 have hde : drvD e = (0, o3) := by unfold drvD; rw [if_pos hc2, ho3]
 have hrel : ∀ i : Nat, i < (nBits d).toNat → ∀ k, k < e.procs.length → (o3[i]? = some (k : Int) ↔ by'[i]? = some ((ren p k : Nat) : Int)) := by
  intro i hi k hk
  rw [drvM_iff hrge ho3 i (by rw [hnb]; exact hi) k, drvM_iff hrgd hdm i hi (ren p k), wsM_get hk, wsM_get (hrl k hk), hW k hk]
 have hol := drvD_len heok hc2 ho3
 have hdl := drvD_len hok hck hdm
 have hnbl := nBits_le hok hck
 have hsum : ∀ s, s < d.signals.length → 0 ≤ sumW d.signals s ∧ sumW d.signals s ≤ sumW d.signals (s + 1) ∧ sumW d.signals (s + 1) ≤ nBits d := fun s hs' =>
  ⟨(sumW_le d.signals hwd s (by omega)).1, sumW_mono d.signals hwd s (s + 1) (by omega) (by omega), sumW_mono d.signals hwd (s + 1) d.signals.length (by omega) (Nat.le_refl _)⟩
 rw [lookM_ok hde]
 by_cases hc : d.procs[p].clocked = true
 ·rw [if_pos hc]
  have h1 : noneF e.signals o3 0 e.signals = false := by
   rw [hs]
   refine noneF_mk fun s hs' hk hm => ?_
   obtain ⟨q1, q2, q3⟩ := hsum s hs'
   obtain ⟨i, i1, i2, i3⟩ := (mem_subM q1 q2 _).1 hm
   obtain ⟨q, g1, g2, g3, -, -, g6⟩ := hdr s hs' i i1 i2
   obtain ⟨g7, g8, g9, -⟩ := g6 hk
   have hqp : q.toNat ≠ p := fun e' => by
    subst e'
    rw [hc] at g9; cases g9
   obtain ⟨k, hk1, hk2⟩ := ren_back hp g8 hqp
   have := (hrel i (by omega) k (by omega)).2 (by rw [g1, hk2]; congr 1; omega)
   rw [i3] at this
   injection this with this
   omega
  have h2 : latF e 0 e.procs = false := latF_mk fun k hk hcl => by
   rw [hW k hk, hAl k hk]
   exact latF_false hlat _ (hrl k hk) (by rw [← hclk k hk]; exact hcl)
  rw [h1]
  unfold lookT
  rw [if_neg (by decide), if_neg (by rw [h2]; decide)]
  -- the order of what is left has all
  obtain ⟨cd, hord, hnr⟩ := orderM_spec (graphM d by') (clks d) ((graphM d by').length + 1) (List.replicate (graphM d by').length false) [] (Ord.nil _ _) (by have := falses_le (List.replicate (graphM d by').length false); simp at this; omega)
  rw [show orderM (graphM d by') (clks d) ((graphM d by').length + 1) (List.replicate (graphM d by').length false) [] = ordM (graphM d by') (clks d) from rfl] at hord
  obtain ⟨ce, horde, hnre⟩ := orderM_spec (graphM e o3) (clks e) ((graphM e o3).length + 1) (List.replicate (graphM e o3).length false) [] (Ord.nil _ _) (by have := falses_le (List.replicate (graphM e o3).length false); simp at this; omega)
  rw [show orderM (graphM e o3) (clks e) ((graphM e o3).length + 1) (List.replicate (graphM e o3).length false) [] = ordM (graphM e o3) (clks e) from rfl] at horde
  have hbeh := behind hok hl hd
  rw [hO] at hbeh
  have hrank := ord_rank hord (fun k hk hc' => by
   rw [graphM_length] at hk
   rw [clks_get d hk] at hc'
   exact hbeh.all k hk hc')
  have hgr := graphM_range heok hc2 hol.1 hol.2
  have hall := ord_all horde hnre (fun k => (ordM (graphM d by') (clks d)).idxOf ((ren p k : Nat) : Int)) (fun k hk hc' q hq => by
   rw [graphM_length] at hk
   rw [clks_get e hk, hclk k hk] at hc'
   have hgk := graphM_get e o3 hk
   rw [List.getD_eq_getElem?_getD, hgk] at hq
   simp only [Option.getD_some] at hq
   obtain ⟨q0, q1, b, q2, q3⟩ := (mem_hang _ _ _ _).1 hq
   have hqr := (hgr _ (List.mem_of_getElem? hgk)).2 q hq
   rw [graphM_length] at hqr ⊢
   refine ⟨q0, hqr.2, q1, ?_⟩
   have hb := readsM_range heok hc2 (p := (k : Int)) (by simpa using hk) b q2
   rw [hRd k hk] at q2
   have hbi : b.toNat < o3.length := by omega
   have hq3 : o3[b.toNat]? = some ((q.toNat : Nat) : Int) := by
    rw [List.getD_eq_getElem?_getD, List.getElem?_eq_getElem hbi] at q3
    rw [List.getElem?_eq_getElem hbi]
    simp only [Option.getD_some] at q3
    rw [q3]; congr 1; omega
   have hq4 := (hrel b.toNat (by omega) q.toNat hqr.2).1 hq3
   rw [clks_get e hqr.2, hclk _ hqr.2] at q1
   have := hrank (ren p k) (by rw [graphM_length]; exact hrl k hk) (by rw [clks_get d (hrl k hk)]; exact hc') ((ren p q.toNat : Nat) : Int) (by
    rw [List.getD_eq_getElem?_getD, graphM_get d by' (hrl k hk)]
    simp only [Option.getD_some]
    rw [mem_hang]
    refine ⟨by omega, by rw [Int.toNat_natCast, clks_get d (hrl _ hqr.2)]; exact q1, b, q2, ?_⟩
    rw [List.getD_eq_getElem?_getD, hq4]; rfl)
   simpa using this)
  rw [if_neg]
  have hwl := wires_list (clks e)
  have hcl : (clks e).length = e.procs.length := by simp [clks]
  have hle : (((List.range (clks e).length).filter fun k => !(clks e).getD k false).map fun (k : Nat) => (k : Int)).length ≤ (ordM (graphM e o3) (clks e)).length := by
   refine nodup_le _ _ ?_ ?_
   ·exact List.Pairwise.map _ (fun a b (h : a ≠ b) (e' : (a : Int) = (b : Int)) => h (by omega)) (List.Pairwise.filter _ List.nodup_range)
   ·intro x hx
    obtain ⟨k, hk, rfl⟩ := List.mem_map.1 hx
    obtain ⟨k1, k2⟩ := List.mem_filter.1 hk
    exact hall k (by rw [graphM_length, ← hcl]; exact List.mem_range.1 k1) (by simpa using k2)
  rw [List.length_map, hwl] at hle
  omega
 ·rw [if_neg hc]
  have hcf : d.procs[p].clocked = false := by simpa using hc
  obtain ⟨b, hb⟩ := List.exists_mem_of_ne_nil _ hw
  obtain ⟨b0, b1⟩ := hrgd _ (List.mem_of_getElem? (wsM_get hp)) b hb
  obtain ⟨i, rfl⟩ : ∃ i : Nat, b = i := ⟨b.toNat, by omega⟩
  have hbi : by'[i]? = some (p : Int) := (drvM_iff hrgd hdm i (by omega) p).2 ⟨_, wsM_get hp, hb⟩
  obtain ⟨s, s1, s2, s3⟩ := sumW_find d.signals (i : Int) (by omega) d.signals.length (Nat.le_refl _) (by unfold nBits at *; omega)
  obtain ⟨q, g1, g2, g3, g4, g5, g6⟩ := hdr s s1 i s2 s3
  rw [hbi] at g1
  injection g1 with g1
  subst g1
  have hkr : 1 ≤ d.signals[s].kind ∧ d.signals[s].kind ≤ 4 := by
   have h2 := ((checkM_iff d).1 hck).2.1
   unfold shapedM at h2
   simp only [Bool.and_eq_true] at h2
   exact sigsOk_kind _ _ h2.1.1 _ (List.getElem_mem s1)
  have hk1 : d.signals[s].kind ≠ 1 := fun h => by have := g4 h; omega
  have hk4 : d.signals[s].kind ≠ 4 := fun h => by
   obtain ⟨_, h4⟩ := g5 h (by omega)
   simp only [Int.toNat_natCast] at h4
   rw [hcf] at h4; cases h4
  have hk23 : d.signals[s].kind = 2 ∨ d.signals[s].kind = 3 := by omega
  have hi3 : i < o3.length := by omega
  have ho : o3[i]? = some (-1) := by
   rcases drvM_get hrge ho3 i (by omega) with ⟨h1, -⟩ | ⟨k, l, h1, h2, h3, -⟩
   ·exact h1
   ·exfalso
    have hk : k < e.procs.length := by have := (List.getElem?_eq_some_iff.1 h1).1; rwa [wsM_length] at this
    have := (hrel i (by omega) k hk).1 h3
    rw [hbi] at this
    injection this with this
    exact ren_ne p k (by omega)
  have hn : noneF e.signals o3 0 e.signals = true := by
   refine Decidable.byContradiction fun hn => ?_
   have hn' : noneF e.signals o3 0 e.signals = false := by simpa using hn
   obtain ⟨q1, q2, q3⟩ := hsum s s1
   refine noneF_false hn' s (by rw [hs]; exact s1) (by simpa only [hs] using hk23) ?_
   rw [hs]
   exact (mem_subM q1 q2 _).2 ⟨i, s2, s3, ho⟩
  rw [hn]
  rfl

open Go.RowKit

/-! ### plain: small designs with a process more or less are small -/
theorem maxBy_sub {α : Type} (f : α → Nat) (a b : List α) (h : ∀ x ∈ a, x ∈ b) : maxBy f a ≤ maxBy f b := by
 have key : ∀ l : List α, ∀ x ∈ l, f x ≤ maxBy f l := by
  intro l
  induction l with
  | nil => intro x hx; cases hx
  | cons y l ih =>
   intro x hx
   rw [maxBy]
   rcases List.mem_cons.1 hx with e | hx
   ·rw [e]; omega
   ·have := ih x hx; omega
 induction a with
 | nil => simp [maxBy]
 | cons x a ih =>
  rw [maxBy]
  have h1 := ih fun y hy => h y (by simp [hy])
  have h2 := key b x (h x (by simp))
  omega

open Go.RowKit

/-! ### plain: a design whose processes are told from behind -/
def turn (d : Flat) : Flat := ⟨d.signals, d.procs.reverse, d.checks⟩
theorem turn_turn (d : Flat) : turn (turn d) = d := by unfold turn; simp
theorem turn_len (d : Flat) : (turn d).procs.length = d.procs.length := by unfold turn; simp
theorem turn_get (d : Flat) {k : Nat} (hk : k < (turn d).procs.length) : (turn d).procs[k] = d.procs[d.procs.length - 1 - k]'(by rw [turn_len] at hk; omega) := by
 show d.procs.reverse[k]'hk = _
 exact List.getElem_reverse _
theorem sumBy_reverse {α : Type} (f : α → Nat) (l : List α) : sumBy f l.reverse = sumBy f l := by
 induction l with
 | nil => rfl
 | cons x l ih => rw [List.reverse_cons, sumBy_append, ih]; simp only [sumBy]; omega
theorem maxBy_reverse {α : Type} (f : α → Nat) (l : List α) : maxBy f l.reverse = maxBy f l :=
 Nat.le_antisymm (maxBy_sub f _ _ (fun x hx => List.mem_reverse.1 hx)) (maxBy_sub f _ _ (fun x hx => List.mem_reverse.2 hx))
theorem turn_nodes (d : Flat) : mNodes (turn d) = mNodes d := by unfold mNodes turn; rw [sumBy_reverse]
theorem turn_deep (d : Flat) : mDeep (turn d) = mDeep d := by unfold mDeep turn; rw [maxBy_reverse]
theorem turn_fits (d : Flat) : fitsM (turn d) = fitsM d := by
 unfold fitsM; rw [turn_nodes, turn_deep, turn_len]; rfl
theorem turn_check {d : Flat} (h : checkM d = 0) : checkM (turn d) = 0 := by
 have hf := ((checkM_iff d).1 h).1
 refine checkM_procs h (fun p hp => List.mem_reverse.1 hp) ?_
 have := turn_fits d
 rw [hf] at this; exact this
theorem turn_check_iff (d : Flat) : checkM (turn d) = 0 ↔ checkM d = 0 :=
 ⟨fun h => by have := turn_check h; rwa [turn_turn] at this, turn_check⟩
theorem turn_ok {d : Flat} (h : d.ok) : (turn d).ok := by
 refine ⟨⟨h.wf.signals, fun p hp => h.wf.procs p (List.mem_reverse.1 hp), h.wf.checks⟩, by rw [turn_nodes]; exact h.nodes, h.signals, by rw [turn_len]; exact h.procs, h.checks⟩
theorem turn_bits (d : Flat) : nBits (turn d) = nBits d := by unfold nBits turn; rfl
theorem turn_writes (d : Flat) {k : Nat} (hk : k < d.procs.length) : writesM (turn d) (k : Int) = writesM d ((d.procs.length - 1 - k : Nat) : Int) :=
 writesM_same (d := d) (e := turn d) rfl (by rw [turn_len]; exact hk) (by omega) (turn_get d (by rw [turn_len]; exact hk))
theorem turn_procL (d : Flat) {k : Nat} (hk : k < d.procs.length) : procL (turn d) (k : Int) = procL d ((d.procs.length - 1 - k : Nat) : Int) := by
 rw [procL_get (d := turn d) (p := (k : Int)) (by rw [turn_len]; simpa using hk), procL_get (d := d) (p := ((d.procs.length - 1 - k : Nat) : Int)) (by simp; omega)]
 simp only [Int.toNat_natCast, turn_get d (show k < (turn d).procs.length by rw [turn_len]; exact hk)]
theorem turn_reads (d : Flat) {k : Nat} (hk : k < d.procs.length) : readsM (turn d) (k : Int) = readsM d ((d.procs.length - 1 - k : Nat) : Int) := by
 unfold readsM offsD; rw [turn_procL d hk]; rfl
theorem turn_always (d : Flat) {k : Nat} (hk : k < d.procs.length) : alwaysM (turn d) (k : Int) = alwaysM d ((d.procs.length - 1 - k : Nat) : Int) := by
 unfold alwaysM offsD; rw [turn_procL d hk]; rfl

/-- each bit has at most one driver in both, or in none of both -/
theorem turn_drv {d : Flat} (hok : d.ok) (hck : checkM d = 0) {o : List Int} (h : drvM (nBits d).toNat (wsM d) = some o) :
  ∃ o', drvM (nBits (turn d)).toNat (wsM (turn d)) = some o' ∧ ∀ i : Nat, i < (nBits d).toNat → ∀ k, k < d.procs.length → (o'[i]? = some (k : Int) ↔ o[i]? = some ((d.procs.length - 1 - k : Nat) : Int)) := by
 have hc2 := turn_check hck
 have hok2 := turn_ok hok
 have hrgd := wsM_range hok hck
 have hrge := wsM_range hok2 hc2
 obtain ⟨o3, ho3⟩ : ∃ o', drvM (nBits (turn d)).toNat (wsM (turn d)) = some o' := by
  refine drvM_some (fun l hl' => ⟨?_, hrge l hl'⟩) ?_
  ·obtain ⟨k, hk, rfl⟩ := List.mem_map.1 hl'
   exact lt_nodup (numbersM_lt _ _ : (writesM (turn d) (k : Int)).Pairwise (· < ·))
  ·intro i j l l' b h1 h2 h3 h4
   have hi : i < d.procs.length := by have := (List.getElem?_eq_some_iff.1 h1).1; rwa [wsM_length, turn_len] at this
   have hj : j < d.procs.length := by have := (List.getElem?_eq_some_iff.1 h2).1; rwa [wsM_length, turn_len] at this
   rw [wsM_get (by rw [turn_len]; exact hi), turn_writes d hi] at h1
   rw [wsM_get (by rw [turn_len]; exact hj), turn_writes d hj] at h2
   injection h1 with h1
   injection h2 with h2
   subst h1 h2
   have := drvM_disj hrgd h _ _ _ _ b (wsM_get (show d.procs.length - 1 - i < d.procs.length by omega)) (wsM_get (show d.procs.length - 1 - j < d.procs.length by omega)) h3 h4
   omega
 refine ⟨o3, ho3, fun i hi k hk => ?_⟩
 rw [drvM_iff hrge ho3 i (by rw [turn_bits]; exact hi) k, drvM_iff hrgd h i hi (d.procs.length - 1 - k), wsM_get (by rw [turn_len]; exact hk), wsM_get (show d.procs.length - 1 - k < d.procs.length by omega), turn_writes d hk]
theorem turn_drv_none {d : Flat} (hok : d.ok) (hck : checkM d = 0) (h : drvM (nBits d).toNat (wsM d) = none) : drvM (nBits (turn d)).toNat (wsM (turn d)) = none := by
 cases e : drvM (nBits (turn d)).toNat (wsM (turn d)) with
 | none => rfl
 | some o =>
  obtain ⟨o', h', -⟩ := turn_drv (turn_ok hok) (turn_check hck) e
  rw [turn_turn, h] at h'
  cases h'
end Go.Proofs.YthpemngachlehaaGreat
