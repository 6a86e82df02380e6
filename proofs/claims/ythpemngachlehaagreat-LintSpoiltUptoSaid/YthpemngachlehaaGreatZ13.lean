/- Laws and walks that a claim of this seat leans on: LawL, Driven, Driven2, Lift. -/
import Derived.Test.YthpemngachlehaaGreatZLint
import Derived.Test.YthpemngachlehaaGreatZLive3
import Derived.Test.YthpemngachlehaaGreatZ12
import Derived.Test.YthpemngachlehaaGreatRows
import Derived.Test.YthpemngachlehaaGreatZ10
import Derived.WalkKit
import Derived.ProofKit
import Derived.OpenShut
import Derived.JoinedCond
set_option linter.all false
namespace Go.Proofs.YthpemngachlehaaGreat
open Go.RowKit

/-! ### plain: what is always written is written -/
def WBit (offs : List Int) (l : List T) (x : Int) : Prop := ∃ t ∈ eachT.eachTs l, t.op = 1 ∧ ∃ j : Int, t.lo ≤ j ∧ j ≤ t.hi ∧ x = offs.getD t.sig.toNat 0 + j
theorem mem_spansW (offs : List Int) (l : List T) (x : Int) : x ∈ numbersM offs (spansW l) ↔ WBit offs l x := by
  rw [mem_numbersM]
  unfold spansW wS WBit
  rw [List.take_length]
  constructor
  · rintro ⟨s, hs, j, h1, h2, h3⟩
    obtain ⟨t, ht, rfl⟩ := List.mem_map.1 hs
    obtain ⟨ht, ho⟩ := List.mem_filter.1 ht
    exact ⟨t, ht, by simpa using ho, j, h1, h2, h3⟩
  · rintro ⟨t, ht, ho, j, h1, h2, h3⟩
    exact ⟨ownS t, List.mem_map.2 ⟨t, List.mem_filter.2 ⟨ht, by simp [ho]⟩, rfl⟩, j, h1, h2, h3⟩
theorem mem_eachTs {l : List T} {x : T} : x ∈ eachT.eachTs l ↔ ∃ t ∈ l, x ∈ eachT t := by
  rw [eachTs_eq, List.mem_flatten]
  constructor
  · rintro ⟨m, hm, hx⟩
    obtain ⟨t, ht, rfl⟩ := List.mem_map.1 hm
    exact ⟨t, ht, hx⟩
  · rintro ⟨t, ht, hx⟩
    exact ⟨_, List.mem_map.2 ⟨t, ht, rfl⟩, hx⟩
theorem wbit_mono {offs : List Int} {l : List T} {t : T} {x : Int} (ht : t ∈ l) (h : WBit offs t.l x) : WBit offs l x := by
  obtain ⟨u, hu, r⟩ := h
  exact ⟨u, mem_eachTs.2 ⟨t, ht, by rw [eachT_eq]; exact List.mem_cons_of_mem _ hu⟩, r⟩
theorem alt_sub (offs : List Int) (t : T) : (∀ x ∈ alt offs t, WBit offs [t] x) ∧ ∀ x ∈ alwM offs t.l, WBit offs t.l x := by
  induction t using T.ind with
  | h t ih =>
    have hm : ∀ x ∈ alwM offs t.l, WBit offs t.l x := by
      intro x hx
      unfold alwM at hx
      rw [setI_mem] at hx
      unfold alwP at hx
      obtain ⟨m, hm, hx⟩ := List.mem_flatten.1 hx
      obtain ⟨y, hy, rfl⟩ := List.mem_map.1 hm
      obtain ⟨u, hu, r⟩ := (ih y hy).1 x hx
      obtain ⟨z, hz, hu⟩ := mem_eachTs.1 hu
      rw [List.mem_singleton.1 hz] at hu
      exact ⟨u, mem_eachTs.2 ⟨y, hy, hu⟩, r⟩
    refine ⟨fun x hx => ?_, hm⟩
    rw [alt_eq] at hx
    split at hx
    · rename_i h1
      obtain ⟨s, hs, j, h2, h3, h4⟩ := (mem_numbersM _ _ _).1 hx
      rw [List.mem_singleton.1 hs] at h2 h3 h4
      exact ⟨t, mem_eachTs.2 ⟨t, by simp, by rw [eachT_eq]; simp⟩, h1, j, h2, h3, h4⟩
    · split at hx
      · unfold metM at hx
        have hx := (List.mem_filter.1 hx).1
        cases hl : t.l with
        | nil => rw [hl] at hx; simp at hx
        | cons y r =>
          rw [hl] at hx
          simp only [List.map_cons, List.headD_cons] at hx
          have hy : y ∈ t.l := by rw [hl]; simp
          exact wbit_mono (by simp) (wbit_mono hy ((ih y hy).2 x hx))
      · exact wbit_mono (by simp) (hm x hx)
theorem alwaysM_sub (d : Flat) (p : Int) : ∀ x ∈ alwaysM d p, x ∈ writesM d p := by
  intro x hx
  unfold writesM
  rw [mem_spansW]
  exact (alt_sub (offsD d) ⟨0, 0, 0, 0, [], procL d p⟩).2 x hx
theorem writes_always {d : Flat} {p : Int} (h : (writesM d p).length = (alwaysM d p).length) : ∀ x ∈ writesM d p, x ∈ alwaysM d p :=
  nodup_full _ _ (lt_nodup (setI_lt _)) (alwaysM_sub d p) (by omega)
theorem latF_false {d : Flat} (h : latF d 0 d.procs = false) : ∀ k (hk : k < d.procs.length), d.procs[k].clocked = false → (writesM d (k : Int)).length = (alwaysM d (k : Int)).length := by
  have key : ∀ (l : List Proc) (p : Nat), latF d p l = false → ∀ i (hi : i < l.length), l[i].clocked = false → (writesM d ((p + i : Nat) : Int)).length = (alwaysM d ((p + i : Nat) : Int)).length := by
    intro l
    induction l with
    | nil => intro p _ i hi; simp at hi
    | cons x l ih =>
      intro p h i hi hc
      rw [latF] at h
      split at h
      · cases h
      · rename_i hx
        cases i with
        | zero =>
          simp at hc
          simpa [hc] using hx
        | succ i =>
          have := ih (p + 1) h i (by simpa using hi) (by simpa using hc)
          rw [show p + (i + 1) = p + 1 + i by omega]
          exact this
  intro k hk hc
  simpa using key d.procs 0 h k hk hc
theorem noneF_false {d : Flat} {by' : List Int} (h : noneF d.signals by' 0 d.signals = false) : ∀ s (hs : s < d.signals.length), d.signals[s].kind = 2 ∨ d.signals[s].kind = 3 → (-1) ∉ subM d.signals by' s := by
  have key : ∀ (l : List Signal) (p : Nat), noneF d.signals by' p l = false → ∀ i (hi : i < l.length), l[i].kind = 2 ∨ l[i].kind = 3 → (-1) ∉ subM d.signals by' (p + i) := by
    intro l
    induction l with
    | nil => intro p _ i hi; simp at hi
    | cons x l ih =>
      intro p h i hi hc
      rw [noneF] at h
      split at h
      · cases h
      · rename_i hx
        cases i with
        | zero =>
          simp at hc
          simpa [hc] using hx
        | succ i =>
          have := ih (p + 1) h i (by simpa using hi) (by simpa using hc)
          rw [show p + (i + 1) = p + 1 + i by omega]
          exact this
  intro s hs hc
  simpa using key d.signals 0 h s hs hc

/-! ### plain: who may be written -/
def KindOk (ls : List Signal) (ck : Bool) (t : T) : Prop := t.op = 1 → kindOf ls t.sig ≠ 1 ∧ ck = decide (kindOf ls t.sig = 4)
theorem accum_zero {α β : Type} (f : Int → α → β × Int) (P : α → Prop) (l : List α) (h : ∀ x ∈ l, ∀ s, (f s x).2 = 0 → s = 0 ∧ P x) : ∀ s, (accum f s l).2 = 0 → s = 0 ∧ ∀ x ∈ l, P x := by
  induction l with
  | nil => intro s hs; exact ⟨hs, by simp⟩
  | cons x l ih =>
    intro s hs
    rw [accum] at hs
    obtain ⟨h1, h2⟩ := ih (fun y hy => h y (by simp [hy])) _ hs
    obtain ⟨h3, h4⟩ := h x (by simp) s h1
    refine ⟨h3, fun y hy => ?_⟩
    rcases List.mem_cons.1 hy with e | hy
    · rw [e]; exact h4
    · exact h2 y hy
theorem szE_zero (err w : Int) (e : E) (h : (szE err e w).2 = 0) : err = 0 := by
  unfold szE at h
  split at h
  · exact h
  · rename_i h0; simpa using h0
theorem szT_zero (ls : List Signal) (ck : Bool) (t : T) : ∀ lab err, (szT ls ck t lab err).2 = 0 → err = 0 ∧ ∀ x ∈ eachT t, KindOk ls ck x := by
  induction t using T.ind with
  | h t ih =>
    intro lab err h
    rw [szT_eq] at h
    simp only [szTL] at h
    obtain ⟨h1, h2⟩ := accum_zero _ (fun x => ∀ y ∈ eachT x, KindOk ls ck y) t.l (fun x hx s hs => ih x hx _ s hs) _ h
    unfold szEs at h1
    obtain ⟨h3, -⟩ := accum_zero _ (fun _ => True) t.e (fun x _ s hs => ⟨szE_zero s _ x hs, trivial⟩) _ h1
    unfold szErr0 at h3
    split at h3
    · exact absurd h3 (by decide)
    · rename_i hn
      refine ⟨h3, fun x hx => ?_⟩
      rw [eachT_eq] at hx
      rcases List.mem_cons.1 hx with e | hx
      · rw [e]
        intro ho
        have hn' : ¬ (kindOf ls t.sig = 1 ∨ ck ≠ decide (kindOf ls t.sig = 4)) := fun hh => hn ⟨ho, h3, hh⟩
        refine ⟨fun e => hn' (.inl e), Decidable.byContradiction fun e => hn' (.inr e)⟩
      · obtain ⟨y, hy, hx⟩ := mem_eachTs.1 hx
        exact h2 y hy x hx
theorem kinds_of_check {d : Flat} (h : checkM d = 0) : ∀ p ∈ d.procs, ∀ t ∈ eachT.eachTs p.l, KindOk d.signals p.clocked t := by
  have h0 : ∃ y, sizeD d = .ok y := by
    unfold checkM at h
    cases hs : sizeD d with
    | error g =>
      exfalso
      rw [hs] at h
      simp only at h
      subst h
      unfold sizeD at hs
      repeat' split at hs
      all_goals first | (cases hs; done) | (injection hs with hs; first | exact absurd hs (by decide) | (rename_i hne; exact hne hs))
    | ok y => exact ⟨y, rfl⟩
  obtain ⟨y, hy⟩ := h0
  have hz : (szCs (szPs d.signals 0 d.procs).2 d.checks).2 = 0 := by
    unfold sizeD at hy
    repeat' split at hy
    all_goals first | (cases hy; done) | skip
    rename_i hz
    simpa using hz
  unfold szCs at hz
  obtain ⟨h1, -⟩ := accum_zero (fun s (c : Chk) => ((⟨c.name, (szE s c.e (-1)).1⟩ : Chk), (szE s c.e (-1)).2)) (fun _ => True) d.checks (fun x _ s hs => ⟨szE_zero s (-1) x.e hs, trivial⟩) _ hz
  unfold szPs at h1
  obtain ⟨-, h2⟩ := accum_zero _ (fun p : Proc => ∀ t ∈ eachT.eachTs p.l, KindOk d.signals p.clocked t) d.procs (fun p _ s hs => by
    simp only [szTL] at hs
    obtain ⟨h3, h4⟩ := accum_zero _ (fun x => ∀ y ∈ eachT x, KindOk d.signals p.clocked y) p.l (fun x _ s hs => szT_zero _ _ x _ s hs) _ hs
    refine ⟨h3, fun t ht => ?_⟩
    obtain ⟨z, hz, ht⟩ := mem_eachTs.1 ht
    exact h4 z hz t ht) _ h1
  exact h2

/-! ### plain: each bit has one -/
theorem driven {d : Flat} (hok : d.ok) (hl : (lookM d).1 = 0) {by' : List Int} (hd : drvD d = (0, by')) : ∀ s (hs : s < d.signals.length) (i : Nat), sumW d.signals s ≤ i → (i : Int) < sumW d.signals (s + 1) →
    ∃ p, by'[i]? = some p ∧ -1 ≤ p ∧ p < d.procs.length ∧ (d.signals[s].kind = 1 → p = -1) ∧ (d.signals[s].kind = 4 → 0 ≤ p → ∃ h : p.toNat < d.procs.length, d.procs[p.toNat].clocked = true) ∧
      (d.signals[s].kind = 2 ∨ d.signals[s].kind = 3 → 0 ≤ p ∧ ∃ h : p.toNat < d.procs.length, d.procs[p.toNat].clocked = false ∧ (i : Int) ∈ alwaysM d p) := by
  obtain ⟨hck, by2, hd2, hdm, hnone, hlat, -⟩ := lookM_zero hok hl
  have hbe : by2 = by' := by rw [hd] at hd2; injection hd2 with _ e; exact e.symm
  subst hbe
  have hw := checkM_w hck
  intro s hs i h1 h2
  have hnb := nBits_le hok hck
  have hmono := sumW_mono d.signals hw (s + 1) d.signals.length (by omega) (Nat.le_refl _)
  have hin : i < (nBits d).toNat := by unfold nBits at *; omega
  have hlen := drvD_len hok hck hdm
  have hil : i < by2.length := by omega
  obtain ⟨p, hp⟩ : ∃ p, by2[i]? = some p := ⟨_, List.getElem?_eq_getElem hil⟩
  have hpr := hlen.2 p (List.mem_of_getElem? hp)
  -- a process that drives the bit assigns this signal
  have key : 0 ≤ p → ∃ h : p.toNat < d.procs.length, (i : Int) ∈ writesM d p ∧ kindOf d.signals s ≠ 1 ∧ d.procs[p.toNat].clocked = decide (kindOf d.signals s = 4) := by
    intro h0
    rcases drvM_get (wsM_range hok hck) hdm i hin with ⟨q1, -⟩ | ⟨k, l, q1, q2, q3, -⟩
    · rw [hp] at q1; injection q1 with q1; omega
    · rw [hp] at q3
      injection q3 with q3
      subst q3
      have hk : k < d.procs.length := by have := (List.getElem?_eq_some_iff.1 q1).1; rwa [wsM_length] at this
      have hle : l = writesM d (k : Int) := by
        unfold wsM at q1
        rw [List.getElem?_map, List.getElem?_range hk] at q1
        simpa using q1.symm
      subst hle
      refine ⟨by simpa using hk, q2, ?_⟩
      have q2' := q2
      unfold writesM at q2'
      rw [mem_spansW] at q2'
      obtain ⟨t, ht, ho, j, g1, g2, g3⟩ := q2'
      rw [procL_get (by simpa using hk)] at ht
      have hD := procD_of hok hck k hk
      simp only [Int.toNat_natCast] at ht ⊢
      have hsp := slice_span (((StD_iff _ _).1 (hD.each t ht)).1 ho)
      obtain ⟨r1, r2, r3⟩ := span_bits d.signals hsp g1 g2
      simp only at r1 r2 r3
      have hse : s = t.sig.toNat := by
        unfold offsD at g3
        exact sumW_uniq d.signals hw hs r1 h1 h2 (by omega) (by omega)
      have hko := kinds_of_check hck _ (List.getElem_mem hk) t ht ho
      have hsig : ((s : Nat) : Int) = t.sig := by have := hsp.1; simp only at this; omega
      rw [hsig]
      exact hko
  have hkind : kindOf d.signals (s : Int) = d.signals[s].kind := by
    unfold kindOf; rw [Int.toNat_natCast, List.getElem?_eq_getElem hs]
  rw [hkind] at key
  refine ⟨p, hp, hpr.1, hpr.2, fun hk => ?_, fun hk h0 => ?_, fun hk => ?_⟩
  · refine Decidable.byContradiction fun hne => ?_
    obtain ⟨-, -, h3, -⟩ := key (by omega)
    exact h3 hk
  · obtain ⟨h, -, -, h4⟩ := key h0
    exact ⟨h, by rw [h4, hk]; decide⟩
  · have hp1 : p ≠ -1 := by
      rintro rfl
      have hb0 := (sumW_le d.signals hw s (by omega)).1
      refine noneF_false hnone s hs hk ?_
      unfold subM
      refine List.mem_of_getElem? (i := i - (sumW d.signals s).toNat) ?_
      rw [List.getElem?_take, if_pos (by omega), List.getElem?_drop, show (sumW d.signals s).toNat + (i - (sumW d.signals s).toNat) = i by omega]
      exact hp
    have h0 : 0 ≤ p := by omega
    obtain ⟨h, h2, -, h4⟩ := key h0
    have hcl : d.procs[p.toNat].clocked = false := by
      rw [h4]
      rcases hk with e | e <;> rw [e] <;> decide
    refine ⟨h0, h, hcl, ?_⟩
    have hlq := latF_false hlat p.toNat h hcl
    rw [show ((p.toNat : Nat) : Int) = p by omega] at hlq
    exact writes_always hlq _ h2
end Go.Proofs.YthpemngachlehaaGreat

namespace Go.Proofs.YthpemngachlehaaGreat
open Go.RowKit

set_option maxRecDepth 100000 in
set_option maxHeartbeats 2000000 in
theorem always12_calls (d : Flat) (v : Value) (w : World) (h : FlatV w v d) (hok : d.ok) (hc : checkM d = 0) {k : Nat} (hk : k < d.procs.length) (b : Int) :
    Calls Tryz.prog 22 #[v, .int .i64 k, .int .i64 b] w fun r w' => r = .returned (.bool (decide (b ∈ alwaysM d k))) ∧ Ext w w' := by
  have HF := Lib.hid h
  obtain ⟨sv, pv, cv, rfl, hS, hP, hC⟩ := h
  have hx := ext_alloc w (.cells [sv, pv, cv].toArray 26)
  have hb := Blk.new w [sv, pv, cv].toArray 26
  have HX := Lib.hid hx
  have HA := Lib.hid (Always_ok d _ _ (HF.out.ext hx) hok hc hk)
  have hnb := nBits_le hok hc
  clear hS hP hC
  have hlen : (alwaysM d k).length ≤ 67108864 := by
    have h1 : (writesM d (k : Int)).length ≤ (nBits d).toNat := lt_length (writesM d (k : Int)) _ (numbersM_lt _ _) (writesM_range hok hc (by simpa using hk))
    have h2 : (alwaysM d (k : Int)).length ≤ (writesM d (k : Int)).length := nodup_le _ _ (lt_nodup (setI_lt _)) (alwaysM_sub d k)
    omega
  generalize alwaysM d k = l at *
  go_enter Tryz.func22, Tryz.ntmps22
  go_upto_region 2 with (first | ((with_reducible show wpList _ _ _ ({ dst := _, op := Op.load 26 _, type := _, pos := _, after := _, guard := _ } :: _) _ _); refine wpList_load_has rfl 26 _ rfl rfl (hb.has) agg_Flat rfl ?_) | (go_at_call 43; refine HA.out.mono ?_; rintro r w2 ⟨u, rfl, hr2, hx2⟩))
  have HXX := Lib.hid (HX.out.trans hx2)
  obtain ⟨al, bl, ol, cl, rfl, hc1, hc2, ha, hr⟩ := hr2.cells.open
  have HAL := Lib.hid ha
  have HRL := Lib.hid hr
  clear hr2 ha hr hx2 hb hx HA HF
  go_wp2_with fail
  refine wp_loop (Rel1 (fun j f => ⟨#[f 0, f 1, .int .i64 b, f 3, f 4, f 5, .bool false, .slice al l.length cl, .int .i64 0, .int .i64 (j : Int), f 10, f 11, f 12, f 13, f 14, f 15, f 16, f 17, f 18, f 19, f 20, f 21, f 22, f 23, f 24, f 25, f 26, f 27, f 28, f 29], []⟩) (fun j wr => j ≤ l.length ∧ Hid (b ∈ l.drop j ↔ b ∈ l) ∧ wr = w2)) (fun a _ => l.length - (intOf (a.tmps.getD 9 undef)).toNat)
    (Rel1.intro 0 rfl ⟨Nat.zero_le _, Lib.hid Iff.rfl, rfl⟩) ?_
  rintro a wr ⟨j, f, rfl, hj, HJ, rfl⟩
  by_cases hjl : j < l.length
  · obtain rfl := HAL.out (by omega)
    have hq := HRL.out.get (List.getElem?_eq_getElem hjl)
    have yq := hq 0 _ rfl
    simp only [Nat.mul_one, Nat.add_zero] at yq
    have hJ := HJ.out
    rw [List.drop_eq_getElem_cons hjl, List.mem_cons] at hJ
    generalize l[j] = x at *
    by_cases hxb : x = b
    · have hJ2 : b ∈ l := hJ.1 (.inl hxb.symm)
      have HJ2 := Lib.hid hJ2
      have hbq : (x == b) = true := by rw [hxb]; simp
      clear hJ hJ2 HJ hq hxb
      go_wp2_with fail
      go_ret
      exact ⟨ret_bool (by simp [HJ2.out]), HXX.out⟩
    · have hJ2 : Hid (b ∈ l.drop (j + 1) ↔ b ∈ l) := Lib.hid ⟨fun h => hJ.1 (.inr h), fun h => (hJ.2 h).resolve_left fun e => hxb e.symm⟩
      have hbq : (x == b) = false := by rw [beq_eq_false_iff_ne]; exact hxb
      clear hJ HJ hq hxb
      go_wp2_with fail
      exact ⟨Rel1.intro (j + 1) rfl ⟨by omega, hJ2, rfl⟩, by simp [intOf]; omega⟩
  · have hjj : j = l.length := by omega
    have hJ := HJ.out
    rw [hjj, List.drop_length] at hJ
    have hJ2 : ¬ b ∈ l := fun h => by have := hJ.2 h; cases this
    have HJ2 := Lib.hid hJ2
    clear hJ HJ hJ2
    go_wp2_with fail
    go_ret
    exact ⟨ret_bool (by simp [HJ2.out]), HXX.out⟩
end Go.Proofs.YthpemngachlehaaGreat

namespace Go.Proofs.YthpemngachlehaaGreat
open Go.RowKit

/-- a look that finds a graph, by its conditions -/
theorem few12_true (d : Flat) (v : Value) (w : World) (h : FlatV w v d) (hok : d.ok) : Calls Tryz.prog 10 #[v] w fun r w' => r = .returned (.bool (few12 d)) ∧ Ext w w' := few12_calls d v w h hok.nodes

set_option maxRecDepth 100000 in
set_option maxHeartbeats 8000000 in
theorem LintDriven_calls (d : Flat) (v : Value) (w : World) (h : FlatV w v d) (hok : d.ok) :
    Calls Tryz.prog 6 #[v] w fun r w' => r = .returned (.bool true) ∧ Ext w w' := by
  have HF := Lib.hid h
  obtain ⟨sv, pv, cv, rfl, hS, hP, hC⟩ := h
  have HX := Lib.hid (ext_alloc w (.cells [sv, pv, cv].toArray 26))
  have HB := Lib.hid (Blk.new w [sv, pv, cv].toArray 26)
  have hln := hok.procs
  have hlns := hok.signals
  obtain ⟨a0, b0, o0, c0, rfl, hc1, hc2, ha, hr⟩ := hP.open
  obtain ⟨as', bs, os, cs, rfl, hd1, hd2, has, hsr⟩ := hS.open
  have HA := Lib.hid ha
  have HR := Lib.hid hr
  have HAS := Lib.hid has
  have HSR := Lib.hid hsr
  clear hS hP hC ha hr has hsr
  go_enter Tryz.func6, Tryz.ntmps6
  go_upto_region 2 with (first | (go_at_call 9; refine (live_calls _).mono ?_; rintro r w2 ⟨rfl, hx2⟩))
  have HX2 := Lib.hid (HX.out.trans hx2)
  have HB2 := Lib.hid (HB.out.ext hx2)
  generalize w.alloc _ = w1 at *
  clear hx2 HB HX
  have HFW := Lib.hid (few12_true d _ w2 (HF.out.ext HX2.out) hok)
  have HCK := Lib.hid (fun W (hx : Ext w2 W) => LCheck_calls d _ W (HF.out.ext (HX2.out.trans hx)) hok)
  obtain ⟨fw, hfw⟩ : ∃ fw, few12 d = fw := ⟨_, rfl⟩
  rw [hfw] at HFW
  clear hfw
  cases fw
  · clear HCK
    go_wp2_with (first | ((with_reducible show wpList _ _ _ ({ dst := _, op := Op.load 26 _, type := _, pos := _, after := _, guard := _ } :: _) _ _); refine wpList_load_has rfl 26 _ rfl rfl (HB2.out.has) agg_Flat rfl ?_) | (go_at_call 10; refine HFW.out.mono ?_; rintro r w3 ⟨rfl, hx3⟩))
    go_ret
    exact ⟨rfl, HX2.out.trans hx3⟩
  · by_cases hl : (lookM d).1 = 0
    · obtain ⟨hck, by', hd, hdm, -⟩ := lookM_zero hok hl
      have HDRV := Lib.hid (driven hok hl hd)
      have hbl := drvD_len hok hck hdm
      have hnb := nBits_le hok hck
      have HBY := Lib.hid hbl.2
      obtain ⟨nb, hnbe⟩ : ∃ nb, by'.length = nb := ⟨_, rfl⟩
      have hnb2 : (nb : Int) = nBits d := by rw [← hnbe]; exact hbl.1
      have HNB := Lib.hid hnb2
      have HNE := Lib.hid hnbe
      have hnb3 : nb ≤ 67108864 := by omega
      have HC0 := Lib.hid hck
      have HW := Lib.hid (checkM_w hck)
      have HDR := Lib.hid (fun W (hx : Ext w2 W) => Drivers_calls d _ W (HF.out.ext (HX2.out.trans hx)) hok)
      have HBT := Lib.hid (fun W (hx : Ext w2 W) => Bits_ok d _ W (HF.out.ext (HX2.out.trans hx)) hok hck)
      rw [hl] at HCK
      rw [hd] at HDR
      clear hl hd hdm hbl hnbe hnb2 hnb hck
      go_upto_region 6 with (first | ((with_reducible show wpList _ _ _ ({ dst := _, op := Op.load 26 _, type := _, pos := _, after := _, guard := _ } :: _) _ _); refine wpList_load_has rfl 26 _ rfl rfl (HB2.out.has) agg_Flat rfl ?_) | (go_at_call 10; refine HFW.out.mono ?_; rintro r w3 ⟨rfl, hx3⟩; have HB3 := Lib.hid (HB2.out.ext hx3)) | ((with_reducible show wpList _ _ _ ({ dst := _, op := Op.load 26 _, type := _, pos := _, after := _, guard := _ } :: _) _ _); refine wpList_load_has rfl 26 _ rfl rfl (HB3.out.has) agg_Flat rfl ?_) | (go_at_call 14; refine (HCK.out _ hx3).mono ?_; rintro r w4 ⟨rfl, hx4⟩; have HX4 := Lib.hid (hx3.trans hx4); have HB4 := Lib.hid (HB2.out.ext HX4.out)) | ((with_reducible show wpList _ _ _ ({ dst := _, op := Op.load 26 _, type := _, pos := _, after := _, guard := _ } :: _) _ _); refine wpList_load_has rfl 26 _ rfl rfl (HB4.out.has) agg_Flat rfl ?_) | (go_at_call 11; refine (HDR.out _ HX4.out).mono ?_; rintro r w5 ⟨u5, rfl, hr5, hx5⟩; have HX5 := Lib.hid (HX4.out.trans hx5); have HB5 := Lib.hid (HB2.out.ext HX5.out)) | ((with_reducible show wpList _ _ _ ({ dst := _, op := Op.load 26 _, type := _, pos := _, after := _, guard := _ } :: _) _ _); refine wpList_load_has rfl 26 _ rfl rfl (HB5.out.has) agg_Flat rfl ?_) | (go_at_call 21; refine (HBT.out _ HX5.out).mono ?_; rintro r w6 ⟨u6, rfl, hr6, hx6⟩))
      obtain ⟨gb, cb, hu, hgb, hgc⟩ := hr6.open1 (by rw [offsM_length]; omega)
      rw [offsM_length] at hu
      subst hu
      obtain ⟨ay, cy, hu, -⟩ := hr5.open
      try simp only at hu
      rw [HNE.out] at hu
      subst hu
      have HRY := Lib.hid (hr5.ext hx6)
      have HGC := Lib.hid hgc
      have HX6 := Lib.hid (HX5.out.trans hx6)
      have HXW := Lib.hid (HX2.out.trans HX6.out)
      have HB6 := Lib.hid (HB2.out.ext HX6.out)
      have y0 := HB6.out.has 0 _ rfl
      rw [Nat.zero_add] at y0
      have ylast := hgc d.signals.length (nb : Int) (by rw [HNB.out]; exact offsM_last _ _)
      clear hr5 hr6 hgc hx3 hx4 hx5 hx6 HB3 HB4 HB5 HX4 HX5 HDR HBT HCK HFW HB2 hgb
      go_wp2_with fail
      clear y0 ylast
      refine wp_loop (Rel1 (fun s f => ⟨#[f 0, .pointer (some ⟨w.heap.size, 0, Option.none⟩), .bool false, .bool true, .slice ay nb cy, f 5, .slice (some ⟨gb, 0, Option.none⟩) (d.signals.length + 1) cb, f 7, .int .i64 (s : Int), f 9, f 10, f 11, f 12, f 13, f 14, f 15, f 16, f 17, f 18, f 19, f 20, f 21, f 22, f 23, f 24, f 25, f 26, f 27, f 28, f 29, f 30, f 31, f 32, f 33, f 34, f 35, f 36, f 37, f 38, f 39, f 40, f 41, f 42, f 43, f 44, f 45, f 46, f 47, f 48, f 49, f 50, f 51, f 52, f 53, f 54, f 55, f 56, f 57, f 58, f 59, f 60, f 61, f 62, f 63, f 64, f 65, f 66, f 67, f 68, f 69, f 70, f 71, f 72, f 73, f 74, f 75, f 76, f 77, f 78, f 79, f 80, f 81, f 82, f 83, f 84, f 85, f 86, f 87, f 88, f 89, f 90, f 91, f 92, f 93, f 94, f 95, f 96, f 97, f 98, f 99, f 100, f 101, f 102, f 103, f 104, f 105, f 106, f 107, f 108, f 109, f 110, f 111, f 112, f 113, f 114, f 115, f 116, f 117, f 118, f 119, f 120, f 121, f 122, f 123, f 124, f 125, f 126, f 127, f 128, f 129, f 130, f 131, f 132, f 133, f 134, f 135, f 136, f 137, f 138, f 139, f 140, f 141, f 142, f 143, f 144, f 145, f 146, f 147, f 148, f 149, f 150, f 151, f 152, f 153], []⟩) (fun s wr => s ≤ d.signals.length ∧ Ext w6 wr)) (fun a _ => d.signals.length - (intOf (a.tmps.getD 8 undef)).toNat)
        (Rel1.intro 0 rfl ⟨Nat.zero_le _, Below.refl _ _⟩) ?_
      rintro a wr ⟨s, f, rfl, hs, hxr⟩
      have HXR := Lib.hid hxr
      have HBR := Lib.hid (HB6.out.ext hxr)
      have y0 := HBR.out.has 0 _ rfl
      have y1 := HBR.out.has 1 _ rfl
      rw [Nat.zero_add] at y0 y1
      clear hxr
      by_cases hlt : s < d.signals.length
      · obtain rfl := HAS.out (by omega)
        have hhas : Has wr bs (os + s * 4) d.signals[s].cells := Sigs.get (HSR.out.mono fun x _ b o h => SigAt.ext' (HXW.out.trans HXR.out) h) hlt
        have yk := hhas 2 _ rfl
        have hb0 := sumW_le d.signals HW.out s hs
        have hb1 := sumW_mono d.signals HW.out (s + 1) d.signals.length (by omega) (Nat.le_refl _)
        have hsw := sumW_succ d.signals s hlt
        have hw1 := (HW.out _ (List.getElem_mem hlt)).1
        have hnbn := HNB.out
        unfold nBits at hnbn
        obtain ⟨s0, hs0⟩ : ∃ s0 : Nat, sumW d.signals s = s0 := ⟨(sumW d.signals s).toNat, by omega⟩
        obtain ⟨s1, hs1'⟩ : ∃ s1 : Nat, sumW d.signals (s + 1) = s1 := ⟨(sumW d.signals (s + 1)).toNat, by omega⟩
        have yb0 := Has.one1 (HGC.out s (s0 : Int) (by rw [← hs0]; exact offsM_get _ _ _ (by omega))) HXR.out
        have yb1 := Has.one1 (HGC.out (s + 1) (s1 : Int) (by rw [← hs1']; exact offsM_get _ _ _ (by omega))) HXR.out
        have h01 : s0 < s1 := by omega
        have h1n : s1 ≤ nb := by omega
        have hdrv : ∀ i : Nat, s0 ≤ i → i < s1 → _ := fun i q1 q2 => HDRV.out s hlt i (by rw [hs0]; omega) (by rw [hs1']; omega)
        obtain ⟨gy, cy', hey, hgy, hgyc⟩ := HRY.out.open1 (by rw [HNE.out]; omega)
        rw [HNE.out] at hey
        injection hey with e1 e2 e3
        subst e1
        subst e3
        obtain ⟨xk, hxk⟩ : ∃ xk, d.signals[s].kind = xk := ⟨_, rfl⟩
        rw [hxk] at hdrv yk
        have HDV := Lib.hid hdrv
        have HYC := Lib.hid hgyc
        have YB1 := Lib.hid yb1
        clear hhas hb0 hb1 hsw hw1 hnbn hs0 hs1' hgy hgyc hdrv hxk
        go_wp2_with fail
        clear yk yb0 yb1 y0 y1
        refine wp_loop (Rel1 (fun i g => ⟨#[g 0, .pointer (some ⟨w.heap.size, 0, Option.none⟩), .bool false, .bool true, .slice (some ⟨gy, 0, Option.none⟩) nb cy, g 5, .slice (some ⟨gb, 0, Option.none⟩) (d.signals.length + 1) cb, g 7, .int .i64 (s : Int), .int .i64 xk, .int .i64 (i : Int), g 11, g 12, g 13, g 14, g 15, g 16, g 17, g 18, g 19, g 20, g 21, g 22, g 23, g 24, g 25, g 26, g 27, g 28, g 29, g 30, g 31, g 32, g 33, g 34, g 35, g 36, g 37, g 38, g 39, g 40, g 41, g 42, g 43, g 44, g 45, g 46, g 47, g 48, g 49, g 50, g 51, g 52, g 53, g 54, g 55, g 56, g 57, g 58, g 59, g 60, g 61, g 62, g 63, g 64, g 65, g 66, g 67, g 68, g 69, g 70, g 71, g 72, g 73, g 74, g 75, g 76, g 77, g 78, g 79, g 80, g 81, g 82, g 83, g 84, g 85, g 86, g 87, g 88, g 89, g 90, g 91, g 92, g 93, g 94, g 95, g 96, g 97, g 98, g 99, g 100, g 101, g 102, g 103, g 104, g 105, g 106, g 107, g 108, g 109, g 110, g 111, g 112, g 113, g 114, g 115, g 116, g 117, g 118, g 119, g 120, g 121, g 122, g 123, g 124, g 125, g 126, g 127, g 128, g 129, g 130, g 131, g 132, g 133, g 134, g 135, g 136, g 137, g 138, g 139, g 140, g 141, g 142, g 143, g 144, g 145, g 146, g 147, g 148, g 149, g 150, g 151, g 152, g 153], []⟩) (fun i wi => s0 ≤ i ∧ i ≤ s1 ∧ Ext wr wi)) (fun a _ => s1 - (intOf (a.tmps.getD 10 undef)).toNat)
          (Rel1.intro s0 rfl ⟨Nat.le_refl _, by omega, Below.refl _ _⟩) ?_
        rintro a wi ⟨i, g, rfl, hi0, hi1, hxi⟩
        have HXI := Lib.hid hxi
        have HBI := Lib.hid (HBR.out.ext hxi)
        have y0 := HBI.out.has 0 _ rfl
        have y1 := HBI.out.has 1 _ rfl
        rw [Nat.zero_add] at y0 y1
        have yb1 := Has.one1 YB1.out hxi
        clear hxi
        by_cases hil : i < s1
        · obtain ⟨p, hp, hp1, hp2, hk1, hk4, hk23⟩ := HDV.out i hi0 hil
          have yp := Has.one1 (HYC.out i p hp) (HXR.out.trans HXI.out)
          by_cases hpm : p = -1
          · subst hpm
            have hkn : ¬ (xk = 2 ∨ xk = 3) := fun h => by have := (hk23 h).1; omega
            have b2 : (xk == 2) = false := by rw [beq_eq_false_iff_ne]; omega
            have b3 : (xk == 3) = false := by rw [beq_eq_false_iff_ne]; omega
            clear hk1 hk4 hk23 hp hp1 hkn
            obtain ⟨q1, hq1⟩ : ∃ q, (xk == 1) = q := ⟨_, rfl⟩
            obtain ⟨q4, hq4⟩ : ∃ q, (xk == 4) = q := ⟨_, rfl⟩
            cases q1 <;> cases q4 <;> (go_wp2_with fail) <;> exact ⟨Rel1.intro (i + 1) rfl ⟨by omega, by omega, HXI.out⟩, by simp [intOf]; omega⟩
          · obtain ⟨k, rfl⟩ : ∃ k : Nat, p = k := ⟨p.toNat, by omega⟩
            have hkn : k < d.procs.length := by omega
            obtain rfl := HA.out (by omega)
            obtain ⟨t1, hhas, -⟩ := Procs.get HR.out hkn
            have yc := (hhas.ext ((HXW.out.trans HXR.out).trans HXI.out)) 0 _ rfl
            rw [Nat.add_zero] at yc
            have hk1' : ¬ xk = 1 := fun h => by have := hk1 h; omega
            have b1 : (xk == 1) = false := by rw [beq_eq_false_iff_ne]; exact hk1'
            simp only [Int.toNat_natCast] at hk4 hk23
            have HAL := Lib.hid (always12_calls d _ wi (HF.out.ext ((HXW.out.trans HXR.out).trans HXI.out)) hok HC0.out hkn (i : Int))
            by_cases h4 : xk = 4
            · obtain ⟨_, hc⟩ := hk4 h4 (by omega)
              rw [hc] at yc
              subst h4
              clear hk1 hk4 hk23 hp hp1 hc hhas HAL
              go_wp2_with fail
              exact ⟨Rel1.intro (i + 1) rfl ⟨by omega, by omega, HXI.out⟩, by simp [intOf]; omega⟩
            · have b4 : (xk == 4) = false := by rw [beq_eq_false_iff_ne]; exact h4
              by_cases h23 : xk = 2 ∨ xk = 3
              · obtain ⟨_, _, hc, ha⟩ := hk23 h23
                rw [hc] at yc
                have hal := HAL.out
                rw [decide_eq_true ha] at hal
                have HAL2 := Lib.hid hal
                clear hk1 hk4 hk23 hp hp1 hc ha hal HAL hhas h4 hk1' b1 b4
                rcases h23 with h2 | h3
                · subst h2
                  go_wp2_with (first | ((with_reducible show wpList _ _ _ ({ dst := _, op := Op.load 26 _, type := _, pos := _, after := _, guard := _ } :: _) _ _); refine wpList_load_has rfl 26 _ rfl rfl (HBI.out.has) agg_Flat rfl ?_) | (go_at_call 22; refine HAL2.out.mono ?_; rintro r w7 ⟨rfl, hx7⟩))
                  exact ⟨Rel1.intro (i + 1) rfl ⟨by omega, by omega, HXI.out.trans hx7⟩, by simp [intOf]; omega⟩
                · subst h3
                  go_wp2_with (first | ((with_reducible show wpList _ _ _ ({ dst := _, op := Op.load 26 _, type := _, pos := _, after := _, guard := _ } :: _) _ _); refine wpList_load_has rfl 26 _ rfl rfl (HBI.out.has) agg_Flat rfl ?_) | (go_at_call 22; refine HAL2.out.mono ?_; rintro r w7 ⟨rfl, hx7⟩))
                  exact ⟨Rel1.intro (i + 1) rfl ⟨by omega, by omega, HXI.out.trans hx7⟩, by simp [intOf]; omega⟩
              · have b2 : (xk == 2) = false := by rw [beq_eq_false_iff_ne]; exact fun e => h23 (.inl e)
                have b3 : (xk == 3) = false := by rw [beq_eq_false_iff_ne]; exact fun e => h23 (.inr e)
                clear hk1 hk4 hk23 hp hp1 hhas HAL h4 hk1' h23
                go_wp2_with fail
                exact ⟨Rel1.intro (i + 1) rfl ⟨by omega, by omega, HXI.out⟩, by simp [intOf]; omega⟩
        · obtain rfl : i = s1 := by omega
          go_wp2_with fail
          exact ⟨Rel1.intro (s + 1) rfl ⟨by omega, HXR.out.trans HXI.out⟩, by simp [intOf]; omega⟩
      · obtain rfl : s = d.signals.length := by omega
        go_wp2_with fail
        go_ret
        exact ⟨rfl, HXW.out.trans HXR.out⟩
    · have hbq : ((lookM d).1 == 0) = false := by rw [beq_eq_false_iff_ne]; exact hl
      clear hl
      go_wp2_with (first | ((with_reducible show wpList _ _ _ ({ dst := _, op := Op.load 26 _, type := _, pos := _, after := _, guard := _ } :: _) _ _); refine wpList_load_has rfl 26 _ rfl rfl (HB2.out.has) agg_Flat rfl ?_) | (go_at_call 10; refine HFW.out.mono ?_; rintro r w3 ⟨rfl, hx3⟩; have HB3 := Lib.hid (HB2.out.ext hx3)) | ((with_reducible show wpList _ _ _ ({ dst := _, op := Op.load 26 _, type := _, pos := _, after := _, guard := _ } :: _) _ _); refine wpList_load_has rfl 26 _ rfl rfl (HB3.out.has) agg_Flat rfl ?_) | (go_at_call 14; refine (HCK.out _ hx3).mono ?_; rintro r w4 ⟨rfl, hx4⟩))
      go_ret
      exact ⟨rfl, HX2.out.trans (hx3.trans hx4)⟩
end Go.Proofs.YthpemngachlehaaGreat

namespace Go.Proofs.YthpemngachlehaaGreat
open Go.RowKit

/-! ### from what is read to a design -/
section
variable {H : Type} {enc : TypeId × Value → H} {w : World}
theorem bulk_part {d : DataW H} {l : List (DataW H)} (h : d ∈ l) : Rows.uptoBulk d ≤ Rows.uptoBulkAll l := by
  induction l with
  | nil => cases h
  | cons x r ih =>
    simp only [Rows.uptoBulkAll]
    rcases List.mem_cons.1 h with e | e
    · subst e; omega
    · have := ih e; omega
theorem bulk_one (d : DataW H) : 1 ≤ Rows.uptoBulk d := by
  cases d with
  | lit l => cases l <;> simp [Rows.uptoBulk]
  | nil => simp [Rows.uptoBulk]
  | ptr d => simp [Rows.uptoBulk]
  | slice elems spare => simp [Rows.uptoBulk]
  | agg parts => simp [Rows.uptoBulk]
  | iface t d => simp [Rows.uptoBulk]
  | map entries => simp [Rows.uptoBulk]
  | held h => simp [Rows.uptoBulk]
theorem has_of_cells {a : Addr} {n : Nat} {cs : List Value} (h : w.cells? 0 a n = some cs) (hn : 0 < n) : ∃ b o, a = ⟨b, o, none⟩ ∧ cs.length = n ∧ Has w b o cs := by
  obtain ⟨-, hl, hc⟩ := World.cells?_some h
  obtain ⟨b, o, spot⟩ := a
  obtain ⟨v, hv⟩ : ∃ v, cs[0]? = some v := ⟨_, List.getElem?_eq_getElem (by omega)⟩
  have h0 := hc 0 hn
  rw [hv] at h0
  have hspot : spot = none := by simpa [Addr.add] using World.cell?_spot h0
  subst hspot
  refine ⟨b, o, rfl, hl, fun j u hj => ?_⟩
  have hlt := (List.getElem?_eq_some_iff.1 hj).1
  rw [← hj, ← hc j (by omega), Go.WideShapes.add_plain]
theorem lift_rows {α : Type} {size n : Nat} {e : TypeId} {At : α → Nat → Nat → Prop} {ok : α → Prop} {ms : α → Nat} {b : Nat}
    (hE : ∀ cs x o, Has w b o cs → DataW.trod enc Tryz.prog w 0 (fun _ => true) true n e cs = some x → ∃ y, At y b o ∧ ok y ∧ ms y ≤ Rows.uptoBulk x.1) (elems : List (DataW H × List MemPlace)) :
    ∀ o, (∀ i (hi : i < elems.length), ∃ cs, Has w b (o + i * size) cs ∧ DataW.trod enc Tryz.prog w 0 (fun _ => true) true n e cs = some elems[i]) → ∃ l : List α, l.length = elems.length ∧ Rows size At l b o ∧ (∀ y ∈ l, ok y) ∧ sumBy ms l ≤ Rows.uptoBulkAll (elems.map (·.1)) := by
  induction elems with
  | nil => intro o _; exact ⟨[], rfl, trivial, by simp, by simp [sumBy]⟩
  | cons x elems ih =>
    intro o h
    obtain ⟨cs, h1, h2⟩ := h 0 (by simp)
    simp only [Nat.zero_mul, Nat.add_zero, List.getElem_cons_zero] at h1 h2
    obtain ⟨y, q1, q2, q3⟩ := hE cs x o h1 h2
    obtain ⟨l, r1, r2, r3, r4⟩ := ih (o + size) fun i hi => by
      obtain ⟨cs', h3, h4⟩ := h (i + 1) (by simpa using hi)
      refine ⟨cs', ?_, by simpa using h4⟩
      rw [show o + size + i * size = o + (i + 1) * size by rw [Nat.add_mul]; omega]
      exact h3
    refine ⟨y :: l, by simp [r1], ⟨q1, r2⟩, ?_, ?_⟩
    · intro z hz
      rcases List.mem_cons.1 hz with e | hz
      · rw [e]; exact q2
      · exact r3 z hz
    · simp only [sumBy, List.map_cons, Rows.uptoBulkAll]; omega
set_option maxRecDepth 100000 in
theorem lift_slice {α : Type} {size : Nat} {t e : TypeId} (ht : Tryz.prog.underlying t = some (.slice e)) (hc : Tryz.prog.cellsOf e = size) (hs : 0 < size) {At : α → Nat → Nat → Prop} {ok : α → Prop} {ms : α → Nat} {m : Nat} {cs : List Value} {x : DataW H × List MemPlace} (h : DataW.trod enc Tryz.prog w 0 (fun _ => true) true m t cs = some x)
    (hE : ∀ n, n < m → ∀ cs x b o, Has w b o cs → DataW.trod enc Tryz.prog w 0 (fun _ => true) true n e cs = some x → ∃ y, At y b o ∧ ok y ∧ ms y ≤ Rows.uptoBulk x.1) :
    ∃ s l, cs = [s] ∧ Sl size At s l ∧ (∀ y ∈ l, ok y) ∧ sumBy ms l + 1 ≤ Rows.uptoBulk x.1 ∧ l.length + 1 ≤ Rows.uptoBulk x.1 := by
  rcases DataW.trod_slice ht h with ⟨rfl, rfl⟩ | ⟨a, len, cap, elems, rest, n, rfl, rfl, rfl, -, hlc, hcm, hel, hes, -⟩
  · exact ⟨_, [], rfl, Sl.nil _ _, by simp, by simp [sumBy, Rows.uptoBulk], by simp [Rows.uptoBulk]⟩
  · rw [hc] at hes
    by_cases h0 : 0 < len
    · obtain ⟨b, o, ha⟩ : ∃ b o, a = ⟨b, o, none⟩ := by
        have := hes 0 h0
        rw [List.getElem?_eq_getElem (by omega)] at this
        obtain ⟨cs, q1, -⟩ := Option.bind_eq_some_iff.1 this
        obtain ⟨b, o, q2, -⟩ := has_of_cells q1 hs
        refine ⟨b, o, ?_⟩
        rw [Nat.zero_mul] at q2
        obtain ⟨ab, ao, as'⟩ := a
        unfold Addr.add at q2
        split at q2 <;> simp_all
      subst ha
      obtain ⟨l, r1, r2, r3, r4⟩ := lift_rows (size := size) (fun cs x o => hE n (by omega) cs x b o) elems o fun i hi => by
        have := hes i (by omega)
        rw [List.getElem?_eq_getElem hi] at this
        obtain ⟨cs, q1, q2⟩ := Option.bind_eq_some_iff.1 this
        rw [Go.WideShapes.add_plain] at q1
        obtain ⟨b', o', q3, -, q4⟩ := has_of_cells q1 hs
        injection q3 with e1 e2
        subst e1; subst e2
        exact ⟨cs, q4, q2⟩
      refine ⟨_, l, rfl, ⟨b, o, ⟨_, cap, by rw [r1, hel], by omega, by simpa using hcm, fun _ => rfl⟩, r2⟩, r3, ?_, ?_⟩
      · simp only [Rows.uptoBulk]; omega
      · simp only [Rows.uptoBulk]
        have : ∀ l : List (DataW H), l.length ≤ Rows.uptoBulkAll l := by
          intro l
          induction l with
          | nil => simp [Rows.uptoBulkAll]
          | cons x r ih => have := bulk_one x; simp only [Rows.uptoBulkAll, List.length_cons]; omega
        have h2 := this (elems.map (·.1))
        simp only [List.length_map] at h2
        omega
    · obtain rfl : len = 0 := by omega
      exact ⟨_, [], rfl, ⟨0, 0, ⟨_, cap, rfl, Nat.zero_le _, by simpa using hcm, fun h => by simp at h⟩, trivial⟩, by simp, by simp [sumBy, Rows.uptoBulk], by simp [Rows.uptoBulk]⟩
theorem lift_int {m : Nat} {cs : List Value} {x : DataW H × List MemPlace} (h : DataW.trod enc Tryz.prog w 0 (fun _ => true) true m 3 cs = some x) : ∃ n, cs = [.int .i64 n] ∧ i64r n := by
  obtain ⟨n, rfl, -, hw⟩ := DataW.trod_int Tryz.underlying3 h
  exact ⟨n, rfl, bounds_i64 hw⟩
theorem lift_u64 {m : Nat} {cs : List Value} {x : DataW H × List MemPlace} (h : DataW.trod enc Tryz.prog w 0 (fun _ => true) true m 40 cs = some x) : ∃ n, cs = [.int .u64 n] ∧ u64r n := by
  obtain ⟨n, rfl, -, hw⟩ := DataW.trod_int Tryz.underlying40 h
  exact ⟨n, rfl, bounds_u64 hw⟩
theorem lift_str {m : Nat} {cs : List Value} {x : DataW H × List MemPlace} (h : DataW.trod enc Tryz.prog w 0 (fun _ => true) true m 9 cs = some x) : ∃ n, cs = [.string n] ∧ n.size ≤ 9223372036854775807 := by
  obtain ⟨n, rfl, -, hw⟩ := DataW.trod_string Tryz.underlying9 h
  exact ⟨n, rfl, by simpa [maxLen] using hw⟩
theorem cells_int : Tryz.prog.cellsOf 3 = 1 := by kernel_rfl
theorem cells_u64 : Tryz.prog.cellsOf 40 = 1 := by kernel_rfl
theorem cells_str : Tryz.prog.cellsOf 9 = 1 := by kernel_rfl
theorem cells_bool : Tryz.prog.cellsOf 4 = 1 := by kernel_rfl
theorem cells_E : Tryz.prog.cellsOf 48 = 8 := by kernel_rfl
theorem cells_T : Tryz.prog.cellsOf 68 = 6 := by kernel_rfl
theorem cells_Sig : Tryz.prog.cellsOf 42 = 4 := by kernel_rfl
theorem cells_Proc : Tryz.prog.cellsOf 38 = 2 := by kernel_rfl
theorem cells_Chk : Tryz.prog.cellsOf 100 = 9 := by kernel_rfl
theorem cells_Flat : Tryz.prog.cellsOf 26 = 3 := by kernel_rfl
theorem cells_sE : Tryz.prog.cellsOf 46 = 1 := by kernel_rfl
theorem cells_sT : Tryz.prog.cellsOf 36 = 1 := by kernel_rfl
theorem cells_sSig : Tryz.prog.cellsOf 22 = 1 := by kernel_rfl
theorem cells_sProc : Tryz.prog.cellsOf 23 = 1 := by kernel_rfl
theorem cells_sChk : Tryz.prog.cellsOf 24 = 1 := by kernel_rfl

set_option maxRecDepth 100000 in
theorem lift_E (m : Nat) : ∀ cs x, DataW.trod enc Tryz.prog w 0 (fun _ => true) true m 48 cs = some x → ∃ (e : E) (s : Value), cs = e.cells s ∧ Es w s e.l ∧ e.wf ∧ nodes e ≤ Rows.uptoBulk x.1 := by
  induction m using Nat.strongRecOn with
  | ind m ih =>
    intro cs x h
    obtain ⟨xs, n, rfl, rfl, hl, hxl, hf⟩ := DataW.trod_struct Tryz.underlying48 h
    rw [cells_E] at hl
    obtain ⟨c0, c1, c2, c3, c4, c5, c6, c7, rfl⟩ : ∃ c0 c1 c2 c3 c4 c5 c6 c7, cs = [c0, c1, c2, c3, c4, c5, c6, c7] := by
      match cs, hl with
      | [c0, c1, c2, c3, c4, c5, c6, c7], _ => exact ⟨_, _, _, _, _, _, _, _, rfl⟩
    obtain ⟨x0, x1, x2, x3, x4, x5, x6, x7, rfl⟩ : ∃ x0 x1 x2 x3 x4 x5 x6 x7, xs = [x0, x1, x2, x3, x4, x5, x6, x7] := by
      match xs, hxl with
      | [x0, x1, x2, x3, x4, x5, x6, x7], _ => exact ⟨_, _, _, _, _, _, _, _, rfl⟩
    have f0 := hf 0 _ rfl
    have f1 := hf 1 _ rfl
    have f2 := hf 2 _ rfl
    have f3 := hf 3 _ rfl
    have f4 := hf 4 _ rfl
    have f5 := hf 5 _ rfl
    have f6 := hf 6 _ rfl
    have f7 := hf 7 _ rfl
    simp only [cells_int, cells_u64, cells_sE, List.drop_zero, List.drop_succ_cons, List.take_succ_cons, List.take_zero, List.getElem?_cons_zero, List.getElem?_cons_succ] at f0 f1 f2 f3 f4 f5 f6 f7
    obtain ⟨n0, e0, w0⟩ := lift_int f0
    obtain ⟨n1, e1, w1⟩ := lift_int f1
    obtain ⟨n2, e2, w2⟩ := lift_u64 f2
    obtain ⟨n3, e3, w3⟩ := lift_int f3
    obtain ⟨n4, e4, w4⟩ := lift_int f4
    obtain ⟨n5, e5, w5⟩ := lift_int f5
    obtain ⟨n6, e6, w6⟩ := lift_int f6
    obtain ⟨s, l, e7, hsl, hok, hsum, -⟩ := lift_slice (At := EAt w) (ok := E.wf) (ms := nodes) Tryz.underlying46 cells_E (by decide) f7 (fun k hk cs x b o hh hx => by
      obtain ⟨e, s, rfl, q1, q2, q3⟩ := ih k (by omega) cs x hx
      exact ⟨e, EAt_iff.2 ⟨s, hh, q1⟩, q2, q3⟩)
    injection e0 with e0; injection e1 with e1; injection e2 with e2; injection e3 with e3; injection e4 with e4; injection e5 with e5; injection e6 with e6; injection e7 with e7
    subst e0; subst e1; subst e2; subst e3; subst e4; subst e5; subst e6; subst e7
    refine ⟨⟨n0, n1, n2, n3, n4, n5, n6, l⟩, _, rfl, hsl, (E.wf_iff _).2 ⟨w0, w1, w2, w3, w4, w5, w6, hok⟩, ?_⟩
    rw [nodes_eq]
    simp only [Rows.uptoBulk, Rows.uptoBulkAll, List.map_cons, List.map_nil]
    omega

set_option maxRecDepth 100000 in
theorem lift_T (m : Nat) : ∀ cs x, DataW.trod enc Tryz.prog w 0 (fun _ => true) true m 68 cs = some x → ∃ (t : T) (s s' : Value), cs = t.cells s s' ∧ Es w s t.e ∧ Ts w s' t.l ∧ t.wf ∧ nodesT t ≤ Rows.uptoBulk x.1 := by
  induction m using Nat.strongRecOn with
  | ind m ih =>
    intro cs x h
    obtain ⟨xs, n, rfl, rfl, hl, hxl, hf⟩ := DataW.trod_struct Tryz.underlying68 h
    rw [cells_T] at hl
    obtain ⟨c0, c1, c2, c3, c4, c5, rfl⟩ : ∃ c0 c1 c2 c3 c4 c5, cs = [c0, c1, c2, c3, c4, c5] := by
      match cs, hl with
      | [c0, c1, c2, c3, c4, c5], _ => exact ⟨_, _, _, _, _, _, rfl⟩
    obtain ⟨x0, x1, x2, x3, x4, x5, rfl⟩ : ∃ x0 x1 x2 x3 x4 x5, xs = [x0, x1, x2, x3, x4, x5] := by
      match xs, hxl with
      | [x0, x1, x2, x3, x4, x5], _ => exact ⟨_, _, _, _, _, _, rfl⟩
    have f0 := hf 0 _ rfl
    have f1 := hf 1 _ rfl
    have f2 := hf 2 _ rfl
    have f3 := hf 3 _ rfl
    have f4 := hf 4 _ rfl
    have f5 := hf 5 _ rfl
    simp only [cells_int, cells_sE, cells_sT, List.drop_zero, List.drop_succ_cons, List.take_succ_cons, List.take_zero, List.getElem?_cons_zero, List.getElem?_cons_succ] at f0 f1 f2 f3 f4 f5
    obtain ⟨n0, e0, w0⟩ := lift_int f0
    obtain ⟨n1, e1, w1⟩ := lift_int f1
    obtain ⟨n2, e2, w2⟩ := lift_int f2
    obtain ⟨n3, e3, w3⟩ := lift_int f3
    obtain ⟨s4, l4, e4, hs4, hok4, hsum4, -⟩ := lift_slice (At := EAt w) (ok := E.wf) (ms := nodes) Tryz.underlying46 cells_E (by decide) f4 (fun k hk cs x b o hh hx => by
      obtain ⟨e, s, rfl, q1, q2, q3⟩ := lift_E k cs x hx
      exact ⟨e, EAt_iff.2 ⟨s, hh, q1⟩, q2, q3⟩)
    obtain ⟨s5, l5, e5, hs5, hok5, hsum5, -⟩ := lift_slice (At := TAt w) (ok := T.wf) (ms := nodesT) Tryz.underlying36 cells_T (by decide) f5 (fun k hk cs x b o hh hx => by
      obtain ⟨t, s, s', rfl, q1, q2, q3, q4⟩ := ih k (by omega) cs x hx
      exact ⟨t, TAt_iff.2 ⟨s, s', hh, q1, q2⟩, q3, q4⟩)
    injection e0 with e0; injection e1 with e1; injection e2 with e2; injection e3 with e3; injection e4 with e4; injection e5 with e5
    subst e0; subst e1; subst e2; subst e3; subst e4; subst e5
    refine ⟨⟨n0, n1, n2, n3, l4, l5⟩, _, _, rfl, hs4, hs5, (T.wf_iff _).2 ⟨w0, w1, w2, w3, hok4, hok5⟩, ?_⟩
    rw [nodesT_eq]
    simp only [Rows.uptoBulk, Rows.uptoBulkAll, List.map_cons, List.map_nil]
    omega
set_option maxRecDepth 100000 in
theorem lift_Sig (m : Nat) : ∀ cs x, DataW.trod enc Tryz.prog w 0 (fun _ => true) true m 42 cs = some x → ∃ y : Signal, cs = y.cells ∧ y.wf := by
  intro cs x h
  obtain ⟨xs, n, rfl, rfl, hl, hxl, hf⟩ := DataW.trod_struct Tryz.underlying42 h
  rw [cells_Sig] at hl
  obtain ⟨c0, c1, c2, c3, rfl⟩ : ∃ c0 c1 c2 c3, cs = [c0, c1, c2, c3] := by
    match cs, hl with
    | [c0, c1, c2, c3], _ => exact ⟨_, _, _, _, rfl⟩
  obtain ⟨x0, x1, x2, x3, rfl⟩ : ∃ x0 x1 x2 x3, xs = [x0, x1, x2, x3] := by
    match xs, hxl with
    | [x0, x1, x2, x3], _ => exact ⟨_, _, _, _, rfl⟩
  have f0 := hf 0 _ rfl
  have f1 := hf 1 _ rfl
  have f2 := hf 2 _ rfl
  have f3 := hf 3 _ rfl
  simp only [cells_int, cells_u64, cells_str, List.drop_zero, List.drop_succ_cons, List.take_succ_cons, List.take_zero, List.getElem?_cons_zero, List.getElem?_cons_succ] at f0 f1 f2 f3
  obtain ⟨n0, e0, w0⟩ := lift_str f0
  obtain ⟨n1, e1, w1⟩ := lift_int f1
  obtain ⟨n2, e2, w2⟩ := lift_int f2
  obtain ⟨n3, e3, w3⟩ := lift_u64 f3
  injection e0 with e0; injection e1 with e1; injection e2 with e2; injection e3 with e3
  subst e0; subst e1; subst e2; subst e3
  exact ⟨⟨n0, n1, n2, n3⟩, rfl, w1, w2, w3, w0⟩
set_option maxRecDepth 100000 in
theorem lift_Proc (m : Nat) : ∀ cs x, DataW.trod enc Tryz.prog w 0 (fun _ => true) true m 38 cs = some x → ∃ (y : Proc) (s : Value), cs = y.cells s ∧ Ts w s y.l ∧ (∀ t ∈ y.l, t.wf) ∧ sumBy nodesT y.l ≤ Rows.uptoBulk x.1 := by
  intro cs x h
  obtain ⟨xs, n, rfl, rfl, hl, hxl, hf⟩ := DataW.trod_struct Tryz.underlying38 h
  rw [cells_Proc] at hl
  obtain ⟨c0, c1, rfl⟩ : ∃ c0 c1, cs = [c0, c1] := by
    match cs, hl with
    | [c0, c1], _ => exact ⟨_, _, rfl⟩
  obtain ⟨x0, x1, rfl⟩ : ∃ x0 x1, xs = [x0, x1] := by
    match xs, hxl with
    | [x0, x1], _ => exact ⟨_, _, rfl⟩
  have f0 := hf 0 _ rfl
  have f1 := hf 1 _ rfl
  simp only [cells_bool, cells_sT, List.drop_zero, List.drop_succ_cons, List.take_succ_cons, List.take_zero, List.getElem?_cons_zero, List.getElem?_cons_succ] at f0 f1
  obtain ⟨b0, e0, -⟩ := DataW.trod_bool Tryz.underlying4 f0
  obtain ⟨s1, l1, e1, hs1, hok1, hsum1, -⟩ := lift_slice (At := TAt w) (ok := T.wf) (ms := nodesT) Tryz.underlying36 cells_T (by decide) f1 (fun k hk cs x b o hh hx => by
    obtain ⟨t, s, s', rfl, q1, q2, q3, q4⟩ := lift_T k cs x hx
    exact ⟨t, TAt_iff.2 ⟨s, s', hh, q1, q2⟩, q3, q4⟩)
  injection e0 with e0; injection e1 with e1
  subst e0; subst e1
  refine ⟨⟨b0, l1⟩, _, rfl, hs1, hok1, ?_⟩
  simp only [Rows.uptoBulk, Rows.uptoBulkAll, List.map_cons, List.map_nil]
  omega
set_option maxRecDepth 100000 in
theorem lift_Chk (m : Nat) : ∀ cs x, DataW.trod enc Tryz.prog w 0 (fun _ => true) true m 100 cs = some x → ∃ (y : Chk) (s : Value), cs = y.cells s ∧ Es w s y.e.l ∧ y.e.wf ∧ nodes y.e ≤ Rows.uptoBulk x.1 := by
  intro cs x h
  obtain ⟨xs, n, rfl, rfl, hl, hxl, hf⟩ := DataW.trod_struct Tryz.underlying100 h
  rw [cells_Chk] at hl
  obtain ⟨c0, r, rfl⟩ : ∃ c0 r, cs = c0 :: r := by
    match cs, hl with
    | c0 :: r, _ => exact ⟨_, _, rfl⟩
  obtain ⟨x0, x1, rfl⟩ : ∃ x0 x1, xs = [x0, x1] := by
    match xs, hxl with
    | [x0, x1], _ => exact ⟨_, _, rfl⟩
  have f0 := hf 0 _ rfl
  have f1 : DataW.trod enc Tryz.prog w 0 (fun _ => true) true n 48 ((List.drop 1 (c0 :: r)).take (Tryz.prog.cellsOf 48)) = some x1 := hf 1 _ rfl
  simp only [cells_str, List.drop_zero, List.take_succ_cons, List.take_zero, List.getElem?_cons_zero] at f0
  rw [cells_E, List.drop_succ_cons, List.drop_zero, List.take_of_length_le (by simp only [List.length_cons] at hl; omega)] at f1
  obtain ⟨n0, e0, w0⟩ := lift_str f0
  obtain ⟨e, s, rfl, q1, q2, q3⟩ := lift_E _ _ _ f1
  injection e0 with e0
  subst e0
  refine ⟨⟨n0, e⟩, s, rfl, q1, q2, ?_⟩
  simp only [Rows.uptoBulk, Rows.uptoBulkAll, List.map_cons, List.map_nil]
  omega
set_option maxRecDepth 100000 in
theorem lift_Flat (m : Nat) : ∀ cs x, DataW.trod enc Tryz.prog w 0 (fun _ => true) true m 26 cs = some x → Rows.uptoBulk x.1 ≤ 1048576 → ∃ d : Flat, FlatV w (.agg cs.toArray) d ∧ d.ok := by
  intro cs x h hk
  obtain ⟨xs, n, rfl, rfl, hl, hxl, hf⟩ := DataW.trod_struct Tryz.underlying26 h
  rw [cells_Flat] at hl
  obtain ⟨c0, c1, c2, rfl⟩ : ∃ c0 c1 c2, cs = [c0, c1, c2] := by
    match cs, hl with
    | [c0, c1, c2], _ => exact ⟨_, _, _, rfl⟩
  obtain ⟨x0, x1, x2, rfl⟩ : ∃ x0 x1 x2, xs = [x0, x1, x2] := by
    match xs, hxl with
    | [x0, x1, x2], _ => exact ⟨_, _, _, rfl⟩
  have f0 := hf 0 _ rfl
  have f1 := hf 1 _ rfl
  have f2 := hf 2 _ rfl
  simp only [cells_sSig, cells_sProc, cells_sChk, List.drop_zero, List.drop_succ_cons, List.take_succ_cons, List.take_zero, List.getElem?_cons_zero, List.getElem?_cons_succ] at f0 f1 f2
  obtain ⟨s0, l0, e0, hs0, hok0, -, hln0⟩ := lift_slice (At := SigAt w) (ok := Signal.wf) (ms := fun _ => 0) Tryz.underlying22 cells_Sig (by decide) f0 (fun k hk cs x b o hh hx => by
    obtain ⟨y, rfl, q1⟩ := lift_Sig k cs x hx
    exact ⟨y, hh, q1, Nat.zero_le _⟩)
  obtain ⟨s1, l1, e1, hs1, hok1, hsum1, hln1⟩ := lift_slice (At := ProcAt w) (ok := fun y : Proc => ∀ t ∈ y.l, t.wf) (ms := fun y => sumBy nodesT y.l) Tryz.underlying23 cells_Proc (by decide) f1 (fun k hk cs x b o hh hx => by
    obtain ⟨y, s, rfl, q1, q2, q3⟩ := lift_Proc k cs x hx
    exact ⟨y, ⟨s, hh, q1⟩, q2, q3⟩)
  obtain ⟨s2, l2, e2, hs2, hok2, hsum2, hln2⟩ := lift_slice (At := ChkAt w) (ok := fun y : Chk => y.e.wf) (ms := fun y => nodes y.e) Tryz.underlying24 cells_Chk (by decide) f2 (fun k hk cs x b o hh hx => by
    obtain ⟨y, s, rfl, q1, q2, q3⟩ := lift_Chk k cs x hx
    exact ⟨y, ⟨s, hh, q1⟩, q2, q3⟩)
  injection e0 with e0; injection e1 with e1; injection e2 with e2
  subst e0; subst e1; subst e2
  simp only [Rows.uptoBulk, Rows.uptoBulkAll, List.map_cons, List.map_nil] at hk
  refine ⟨⟨l0, l1, l2⟩, ⟨_, _, _, rfl, hs0, hs1, hs2⟩, ⟨⟨hok0, hok1, hok2⟩, ?_, ?_, ?_, ?_⟩⟩
  · rw [mNodes_eq]; omega
  all_goals (simp only; omega)
end
end Go.Proofs.YthpemngachlehaaGreat
