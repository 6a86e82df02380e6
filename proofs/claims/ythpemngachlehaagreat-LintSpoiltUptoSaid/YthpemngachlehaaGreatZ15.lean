/- Laws and walks that a claim of this seat leans on: SpoilL, SpoilL2, SpoilL3, SpoilL4, SpoilP. -/
import Derived.Test.YthpemngachlehaaGreatZ14
import Derived.Test.YthpemngachlehaaGreatZ02
set_option linter.all false
namespace Go.Proofs.YthpemngachlehaaGreat
open Go.RowKit

/-! ### plain: a check of a design is a check of each process -/
theorem accum_zero_iff {α β : Type} (f : Int → α → β × Int) (hst : ∀ x s, (f s x).2 = 0 → s = 0) (l : List α) : ∀ s, (accum f s l).2 = 0 → s = 0 ∧ (∀ x ∈ l, (f 0 x).2 = 0) ∧ (accum f 0 l).1 = l.map fun x => (f 0 x).1 := by
  induction l with
  | nil => intro s hs; exact ⟨hs, by simp, rfl⟩
  | cons x l ih =>
    intro s hs
    rw [accum] at hs
    obtain ⟨h1, h2, h3⟩ := ih _ hs
    have h4 := hst x s h1
    subst h4
    refine ⟨rfl, fun y hy => ?_, ?_⟩
    · rcases List.mem_cons.1 hy with e | hy
      · rw [e]; exact h1
      · exact h2 y hy
    · rw [accum, List.map_cons, h1, h3]
theorem accum_zero_mk {α β : Type} (f : Int → α → β × Int) (l : List α) (h : ∀ x ∈ l, (f 0 x).2 = 0) : (accum f 0 l).2 = 0 ∧ (accum f 0 l).1 = l.map fun x => (f 0 x).1 := by
  induction l with
  | nil => exact ⟨rfl, rfl⟩
  | cons x l ih =>
    rw [accum]
    obtain ⟨h1, h2⟩ := ih fun y hy => h y (by simp [hy])
    rw [h x (by simp)]
    exact ⟨h1, by rw [h2]; rfl⟩
theorem allEq2_map {α : Type} (eq : α → α → Bool) (f : α → α) (l : List α) : allEq2 eq (l.map f) l = true ↔ ∀ x ∈ l, eq (f x) x = true := by
  induction l with
  | nil => simp [allEq2]
  | cons x l ih => simp [allEq2, ih]
abbrev fP (ls : List Signal) : Int → Proc → Proc × Int := fun s p => ((⟨p.clocked, (szTL ls p.clocked 0 s p.l).1⟩ : Proc), (szTL ls p.clocked 0 s p.l).2)
abbrev fC : Int → Chk → Chk × Int := fun s c => ((⟨c.name, (szE s c.e (-1)).1⟩ : Chk), (szE s c.e (-1)).2)
theorem fP_st (ls : List Signal) (p : Proc) (s : Int) (h : (fP ls s p).2 = 0) : s = 0 := by
  simp only [fP, szTL] at h
  exact (accum_zero _ (fun _ => True) p.l (fun x _ s hs => ⟨(szT_zero _ _ x _ s hs).1, trivial⟩) _ h).1
theorem fC_st (c : Chk) (s : Int) (h : (fC s c).2 = 0) : s = 0 := szE_zero s (-1) c.e h
theorem checkM_iff (d : Flat) : checkM d = 0 ↔ fitsM d = true ∧ shapedM d = true ∧ (d.signals.any fun s => !holds s.w s.init) = false ∧
    (∀ p ∈ d.procs, (fP d.signals 0 p).2 = 0 ∧ eqP (fP d.signals 0 p).1 p = true) ∧ (∀ c ∈ d.checks, (fC 0 c).2 = 0 ∧ eqC (fC 0 c).1 c = true) := by
  constructor
  · intro h
    have hok : ∃ y, sizeD d = .ok y := by
      unfold checkM at h
      cases hs : sizeD d with
      | error g =>
        exfalso
        rw [hs] at h
        simp only at h
        subst h
        unfold sizeD at hs
        repeat' split at hs
        all_goals first | (cases hs; done) | (injection hs with hs; first | exact absurd hs (by decide) | (rename_i hne; exact hne hs))
      | ok y => exact ⟨y, rfl⟩
    obtain ⟨y, hy⟩ := hok
    have hs : (sameProcs y.procs d.procs && sameChecks y.checks d.checks) = true := by
      unfold checkM at h
      rw [hy] at h
      simp only at h
      split at h
      · assumption
      · exact absurd h (by decide)
    unfold sizeD at hy
    split at hy
    · cases hy
    split at hy
    · cases hy
    split at hy
    · cases hy
    split at hy
    · cases hy
    rename_i h1 h2 h3 h4
    injection hy with hy
    subst hy
    have h4' : (szCs (szPs d.signals 0 d.procs).2 d.checks).2 = 0 := by simpa using h4
    obtain ⟨h5, h6, h7⟩ := accum_zero_iff fC fC_st d.checks _ h4'
    obtain ⟨-, h8, h9⟩ := accum_zero_iff (fP d.signals) (fP_st d.signals) d.procs 0 h5
    rw [Bool.and_eq_true] at hs
    obtain ⟨hs1, hs2⟩ := hs
    simp only at hs1 hs2
    unfold sameProcs at hs1
    unfold sameChecks at hs2
    rw [show (szPs d.signals 0 d.procs).1 = d.procs.map fun x => (fP d.signals 0 x).1 from h9, allEq2_map] at hs1
    rw [h5] at hs2
    rw [show (szCs 0 d.checks).1 = d.checks.map fun x => (fC 0 x).1 from h7, allEq2_map] at hs2
    exact ⟨by simpa using h1, by simpa using h2, by simpa using h3, fun p hp => ⟨h8 p hp, hs1 p hp⟩, fun c hc => ⟨h6 c hc, hs2 c hc⟩⟩
  · rintro ⟨h1, h2, h3, h4, h5⟩
    obtain ⟨q1, q2⟩ := accum_zero_mk (fP d.signals) d.procs fun p hp => (h4 p hp).1
    obtain ⟨q3, q4⟩ := accum_zero_mk fC d.checks fun p hp => (h5 p hp).1
    have e1 : (szPs d.signals 0 d.procs).2 = 0 := q1
    have e2 : (szPs d.signals 0 d.procs).1 = d.procs.map fun x => (fP d.signals 0 x).1 := q2
    have e3 : (szCs 0 d.checks).2 = 0 := q3
    have e4 : (szCs 0 d.checks).1 = d.checks.map fun x => (fC 0 x).1 := q4
    have : sizeD d = .ok ⟨d.signals, d.procs.map (fun x => (fP d.signals 0 x).1), d.checks.map fun x => (fC 0 x).1⟩ := by
      unfold sizeD
      rw [if_neg (by rw [h1]; decide), if_neg (by rw [h2]; decide), if_neg (by rw [h3]; decide), e1, if_neg (by rw [e3]; decide), e2, e4]
    unfold checkM
    rw [this]
    simp only
    rw [if_pos]
    rw [Bool.and_eq_true]
    exact ⟨(allEq2_map _ _ _).2 fun p hp => (h4 p hp).2, (allEq2_map _ _ _).2 fun c hc => (h5 c hc).2⟩
/-- a check of a design whose processes are all of a checked one's -/
theorem checkM_procs {d : Flat} (h : checkM d = 0) {l : List Proc} (hl : ∀ p ∈ l, p ∈ d.procs) (hf : fitsM ⟨d.signals, l, d.checks⟩ = true) : checkM ⟨d.signals, l, d.checks⟩ = 0 := by
  obtain ⟨h1, h2, h3, h4, h5⟩ := (checkM_iff d).1 h
  refine (checkM_iff _).2 ⟨hf, ?_, h3, fun p hp => h4 p (hl p hp), h5⟩
  unfold shapedM at h2 ⊢
  simp only [Bool.and_eq_true, Bool.not_eq_true', List.any_eq_false] at h2 ⊢
  exact ⟨⟨h2.1.1, fun p hp => h2.1.2 p (hl p hp)⟩, h2.2⟩
end Go.Proofs.YthpemngachlehaaGreat

namespace Go.Proofs.YthpemngachlehaaGreat
open Go.RowKit

/-! ### plain: drivers when each bit has at most one -/
theorem drv1_some (p : Int) (l : List Int) : ∀ out : List Int, l.Nodup → (∀ b ∈ l, 0 ≤ b ∧ b < out.length ∧ out.getD b.toNat 0 < 0) → ∃ o, drv1 p l out = some o := by
  induction l with
  | nil => intro out _ _; exact ⟨out, rfl⟩
  | cons b l ih =>
    intro out hn hb
    obtain ⟨b0, b1, b2⟩ := hb b (by simp)
    rw [drv1, if_neg (by omega)]
    rw [List.nodup_cons] at hn
    refine ih _ hn.2 fun c hc => ?_
    obtain ⟨c0, c1, c2⟩ := hb c (by simp [hc])
    refine ⟨c0, by rw [List.length_set]; exact c1, ?_⟩
    have hne : b.toNat ≠ c.toNat := fun e => hn.1 (by rw [show b = c by omega]; exact hc)
    rw [List.getD_eq_getElem?_getD, List.getElem?_set_ne hne, ← List.getD_eq_getElem?_getD]
    exact c2
theorem drvs_some (ws : List (List Int)) : ∀ (p : Nat) (out : List Int), (∀ l ∈ ws, l.Nodup ∧ ∀ b ∈ l, 0 ≤ b ∧ b < out.length ∧ out.getD b.toNat 0 < 0) →
    (∀ (i j : Nat) (l l' : List Int) (b : Int), ws[i]? = some l → ws[j]? = some l' → b ∈ l → b ∈ l' → i = j) → ∃ o, drvs p ws out = some o := by
  induction ws with
  | nil => intro p out _ _; exact ⟨out, rfl⟩
  | cons l ws ih =>
    intro p out hb hd
    obtain ⟨o1, h1⟩ := drv1_some (p : Int) l out (hb l (by simp)).1 (hb l (by simp)).2
    rw [drvs, h1]
    have hl1 := drv1_length _ _ _ _ h1
    obtain ⟨g1, g2⟩ := drv1_get p (by omega) l out o1 (fun b hb' => ⟨((hb l (by simp)).2 b hb').1, ((hb l (by simp)).2 b hb').2.1⟩) h1
    refine ih (p + 1) o1 (fun l' hl' => ⟨(hb l' (by simp [hl'])).1, fun b hbl => ?_⟩) (fun i j a a' b h2 h3 h4 h5 => by
      have := hd (i + 1) (j + 1) a a' b (by simpa using h2) (by simpa using h3) h4 h5
      omega)
    obtain ⟨q1, q2, q3⟩ := (hb l' (by simp [hl'])).2 b hbl
    obtain ⟨k, hk⟩ := List.getElem?_of_mem hl'
    have hnot : ((b.toNat : Nat) : Int) ∉ l := fun hm => by
      rw [show ((b.toNat : Nat) : Int) = b by omega] at hm
      have := hd 0 (k + 1) l l' b rfl (by simpa using hk) hm hbl
      omega
    refine ⟨q1, by omega, ?_⟩
    rw [List.getD_eq_getElem?_getD, g2 b.toNat hnot, ← List.getD_eq_getElem?_getD]
    exact q3
theorem drvM_some {n : Nat} {ws : List (List Int)} (hb : ∀ l ∈ ws, l.Nodup ∧ ∀ b ∈ l, 0 ≤ b ∧ b < n) (hd : ∀ (i j : Nat) (l l' : List Int) (b : Int), ws[i]? = some l → ws[j]? = some l' → b ∈ l → b ∈ l' → i = j) : ∃ o, drvM n ws = some o := by
  refine drvs_some ws 0 _ (fun l hl => ⟨(hb l hl).1, fun b hbl => ?_⟩) hd
  obtain ⟨h1, h2⟩ := (hb l hl).2 b hbl
  refine ⟨h1, by simpa using h2, ?_⟩
  rw [List.getD_eq_getElem?_getD, List.getElem?_replicate, if_pos (by omega)]
  simp
theorem drvM_disj {n : Nat} {ws : List (List Int)} {o : List Int} (hb : ∀ l ∈ ws, ∀ b ∈ l, 0 ≤ b ∧ b < n) (h : drvM n ws = some o) : ∀ (i j : Nat) (l l' : List Int) (b : Int), ws[i]? = some l → ws[j]? = some l' → b ∈ l → b ∈ l' → i = j := by
  intro i j l l' b h1 h2 h3 h4
  obtain ⟨b0, b1⟩ := hb l (List.mem_of_getElem? h1) b h3
  obtain ⟨k, rfl⟩ : ∃ k : Nat, b = k := ⟨b.toNat, by omega⟩
  rcases drvM_get hb h k (by omega) with ⟨-, q⟩ | ⟨m, a, -, -, -, q⟩
  · exact absurd h3 (q l (List.mem_of_getElem? h1))
  · rw [q i l h1 h3, q j l' h2 h4]

/-! ### plain: one process more -/
theorem wsM_get {d : Flat} {k : Nat} (hk : k < d.procs.length) : (wsM d)[k]? = some (writesM d (k : Int)) := by
  simp [wsM, List.getElem?_range, hk]
theorem writesM_same {d e : Flat} (hs : e.signals = d.signals) {i j : Nat} (hi : i < e.procs.length) (hj : j < d.procs.length) (h : e.procs[i] = d.procs[j]) : writesM e (i : Int) = writesM d (j : Int) := by
  unfold writesM offsD
  rw [hs, procL_get (d := e) (p := (i : Int)) (by simpa using hi), procL_get (d := d) (p := (j : Int)) (by simpa using hj)]
  simp only [Int.toNat_natCast, h]
theorem more_two {d e : Flat} (hck : checkM d = 0) {p : Nat} (hp : p < d.procs.length) (hw : writesM d (p : Int) ≠ []) (hs : e.signals = d.signals) (hpr : e.procs = d.procs ++ [d.procs[p]]) (hch : e.checks = d.checks) (hmok : e.ok) (hf : fitsM e = true) : (lookM e).1 = 120 := by
  have hc2 : checkM e = 0 := by
    obtain ⟨a, b, c⟩ := e
    simp only at hs hpr hch
    subst hs hch
    refine checkM_procs hck (fun x hx => ?_) hf
    rw [hpr] at hx
    rcases List.mem_append.1 hx with h | h
    · exact h
    · rw [List.mem_singleton.1 h]; exact List.getElem_mem hp
  have hlen : e.procs.length = d.procs.length + 1 := by rw [hpr]; simp
  obtain ⟨b, hb⟩ := List.exists_mem_of_ne_nil _ hw
  have e1 : writesM e (p : Int) = writesM d (p : Int) := writesM_same hs (by omega) hp (by simp only [hpr]; rw [List.getElem_append_left hp])
  have e2 : writesM e ((d.procs.length : Nat) : Int) = writesM d (p : Int) := writesM_same hs (by omega) hp (by simp [hpr])
  have hrg := wsM_range hmok hc2
  have g1 := wsM_get (d := e) (k := p) (by omega)
  have g2 := wsM_get (d := e) (k := d.procs.length) (by omega)
  rw [e1] at g1
  rw [e2] at g2
  have hdn : drvM (nBits e).toNat (wsM e) = none := by
    generalize wsM e = ws at *
    generalize (nBits e).toNat = n at *
    cases hm : drvM n ws with
    | none => rfl
    | some o =>
      exfalso
      have := drvM_disj hrg hm p d.procs.length _ _ b g1 g2 hb hb
      omega
  have hdr : drvD e = (120, []) := by
    unfold drvD; rw [if_pos hc2, hdn]
  rw [lookM_err hdr (by decide)]
end Go.Proofs.YthpemngachlehaaGreat

namespace Go.Proofs.YthpemngachlehaaGreat
open Go.RowKit

/-! ### plain: one process less -/
theorem drvM_iff {n : Nat} {ws : List (List Int)} {o : List Int} (hb : ∀ l ∈ ws, ∀ b ∈ l, 0 ≤ b ∧ b < n) (h : drvM n ws = some o) (i : Nat) (hi : i < n) (k : Nat) : o[i]? = some (k : Int) ↔ ∃ l, ws[k]? = some l ∧ (i : Int) ∈ l := by
  rcases drvM_get hb h i hi with ⟨h1, h2⟩ | ⟨m, l, h1, h2, h3, h4⟩
  · constructor
    · intro h3; rw [h1] at h3; injection h3 with h3; omega
    · rintro ⟨l, hl, hm⟩; exact absurd hm (h2 l (List.mem_of_getElem? hl))
  · constructor
    · intro h5
      rw [h3] at h5
      injection h5 with h5
      obtain rfl : m = k := by omega
      exact ⟨l, h1, h2⟩
    · rintro ⟨l', hl, hm⟩
      rw [h4 k l' hl hm]; exact h3
theorem noneF_mk {ls : List Signal} {by' : List Int} (h : ∀ s (hs : s < ls.length), ls[s].kind = 2 ∨ ls[s].kind = 3 → (-1) ∉ subM ls by' s) : noneF ls by' 0 ls = false := by
  have key : ∀ (l : List Signal) (p : Nat), (∀ i (hi : i < l.length), l[i].kind = 2 ∨ l[i].kind = 3 → (-1) ∉ subM ls by' (p + i)) → noneF ls by' p l = false := by
    intro l
    induction l with
    | nil => intro p _; rfl
    | cons x l ih =>
      intro p hh
      rw [noneF, if_neg]
      · refine ih (p + 1) fun i hi hc => ?_
        have := hh (i + 1) (by simpa using hi) (by simpa using hc)
        rwa [show p + (i + 1) = p + 1 + i by omega] at this
      · intro hc
        simp only [Bool.and_eq_true, Bool.or_eq_true, decide_eq_true_eq, List.contains_iff_mem] at hc
        exact hh 0 (by simp) (by simpa using hc.1) (by simpa using hc.2)
  exact key ls 0 (by simpa using h)
theorem latF_mk {d : Flat} (h : ∀ k (hk : k < d.procs.length), d.procs[k].clocked = false → (writesM d (k : Int)).length = (alwaysM d (k : Int)).length) : latF d 0 d.procs = false := by
  have key : ∀ (l : List Proc) (p : Nat), (∀ i (hi : i < l.length), l[i].clocked = false → (writesM d ((p + i : Nat) : Int)).length = (alwaysM d ((p + i : Nat) : Int)).length) → latF d p l = false := by
    intro l
    induction l with
    | nil => intro p _; rfl
    | cons x l ih =>
      intro p hh
      rw [latF, if_neg]
      · refine ih (p + 1) fun i hi hc => ?_
        have := hh (i + 1) (by simpa using hi) (by simpa using hc)
        rwa [show p + (i + 1) = p + 1 + i by omega] at this
      · intro hc
        simp only [Bool.and_eq_true, Bool.not_eq_true', decide_eq_false_iff_not] at hc
        exact hc.2 (hh 0 (by simp) (by simpa using hc.1))
  exact key d.procs 0 (by simpa using h)
theorem mem_subM {ls : List Signal} {o : List Int} {s : Nat} (h0 : 0 ≤ sumW ls s) (h1 : sumW ls s ≤ sumW ls (s + 1)) (x : Int) : x ∈ subM ls o s ↔ ∃ i : Nat, sumW ls s ≤ i ∧ (i : Int) < sumW ls (s + 1) ∧ o[i]? = some x := by
  unfold subM
  rw [List.mem_iff_getElem?]
  constructor
  · rintro ⟨i, hi⟩
    rw [List.getElem?_take] at hi
    split at hi
    · rw [List.getElem?_drop] at hi
      exact ⟨_, by omega, by omega, hi⟩
    · cases hi
  · rintro ⟨i, h2, h3, h4⟩
    refine ⟨i - (sumW ls s).toNat, ?_⟩
    rw [List.getElem?_take, if_pos (by omega), List.getElem?_drop, show (sumW ls s).toNat + (i - (sumW ls s).toNat) = i by omega]
    exact h4
theorem sumW_find (ls : List Signal) (i : Int) (h0 : 0 ≤ i) : ∀ n, n ≤ ls.length → i < sumW ls n → ∃ s, s < n ∧ sumW ls s ≤ i ∧ i < sumW ls (s + 1) := by
  intro n
  induction n with
  | zero => intro _ h; exfalso; simp [sumW] at h; omega
  | succ n ih =>
    intro hn h
    by_cases hlt : i < sumW ls n
    · obtain ⟨s, h1, h2⟩ := ih (by omega) hlt
      exact ⟨s, by omega, h2⟩
    · exact ⟨n, by omega, by omega, h⟩
theorem sigsOk_kind (l : List Signal) : ∀ seen, sigsOk seen l = true → ∀ x ∈ l, 1 ≤ x.kind ∧ x.kind ≤ 4 := by
  induction l with
  | nil => intro _ _ x hx; cases hx
  | cons y l ih =>
    intro seen h x hx
    rw [sigsOk, Bool.and_eq_true] at h
    rcases List.mem_cons.1 hx with e | hx
    · have := h.1
      unfold sigOk at this
      simp only [Bool.and_eq_true, decide_eq_true_eq] at this
      rw [e]
      exact ⟨this.1.1.2, this.1.2⟩
    · exact ih _ h.2 x hx

/-- the place in the whole of a process of what is left -/
def ren (p k : Nat) : Nat := if k < p then k else k + 1
theorem ren_ne (p k : Nat) : ren p k ≠ p := by unfold ren; split <;> omega
theorem ren_inj {p i j : Nat} (h : ren p i = ren p j) : i = j := by unfold ren at h; split at h <;> split at h <;> omega
theorem ren_lt {p k n : Nat} (hp : p < n) (h : k < n - 1) : ren p k < n := by unfold ren; split <;> omega
theorem ren_back {p q n : Nat} (hp : p < n) (hq : q < n) (h : q ≠ p) : ∃ k, k < n - 1 ∧ ren p k = q := by
  by_cases hlt : q < p
  · exact ⟨q, by omega, by unfold ren; rw [if_pos hlt]⟩
  · exact ⟨q - 1, by omega, by unfold ren; rw [if_neg (by omega)]; omega⟩

theorem less_ok {d e : Flat} (hok : d.ok) (hl : (lookM d).1 = 0) {p : Nat} (hp : p < d.procs.length) (hw : writesM d (p : Int) ≠ []) (hs : e.signals = d.signals) (hpr : e.procs = d.procs.take p ++ d.procs.drop (p + 1)) (hch : e.checks = d.checks) (heok : e.ok) (hf : fitsM e = true) :
    (lookM e).1 = if d.procs[p].clocked = true then 0 else 121 := by
  obtain ⟨hck, by', hd, hdm, hnone, hlat, hG, hO, hwo⟩ := lookM_zero hok hl
  have hdr := driven hok hl hd
  have hwd := checkM_w hck
  have hc2 : checkM e = 0 := by
    obtain ⟨a, b, c⟩ := e
    simp only at hs hpr hch
    subst hs hch
    refine checkM_procs hck (fun x hx => ?_) hf
    rw [hpr] at hx
    rcases List.mem_append.1 hx with h | h
    · exact List.mem_of_mem_take h
    · exact List.mem_of_mem_drop h
  have hlen : e.procs.length = d.procs.length - 1 := by rw [hpr]; simp; omega
  have hget : ∀ k (hk : k < e.procs.length), e.procs[k] = d.procs[ren p k]'(ren_lt hp (by omega)) := by
    intro k hk
    have h1 : e.procs[k]? = d.procs[ren p k]? := by
      rw [hpr]
      by_cases hlt : k < p
      · rw [List.getElem?_append_left (by simp; omega), List.getElem?_take, if_pos hlt]; unfold ren; rw [if_pos hlt]
      · rw [List.getElem?_append_right (by simp; omega), List.getElem?_drop]; unfold ren; rw [if_neg hlt]; congr 1; simp; omega
    rw [List.getElem?_eq_getElem hk, List.getElem?_eq_getElem (ren_lt hp (by omega))] at h1
    exact Option.some.inj h1
  have hrl : ∀ k, k < e.procs.length → ren p k < d.procs.length := fun k hk => ren_lt hp (by omega)
  have hW : ∀ k, k < e.procs.length → writesM e (k : Int) = writesM d ((ren p k : Nat) : Int) := fun k hk => writesM_same hs hk (hrl k hk) (hget k hk)
  have hpl : ∀ k, k < e.procs.length → procL e (k : Int) = procL d ((ren p k : Nat) : Int) := fun k hk => by
    rw [procL_get (d := e) (p := (k : Int)) (by simpa using hk), procL_get (d := d) (p := ((ren p k : Nat) : Int)) (by simpa using hrl k hk)]
    simp only [Int.toNat_natCast, hget k hk]
  have hRd : ∀ k, k < e.procs.length → readsM e (k : Int) = readsM d ((ren p k : Nat) : Int) := fun k hk => by
    unfold readsM offsD; rw [hs, hpl k hk]
  have hAl : ∀ k, k < e.procs.length → alwaysM e (k : Int) = alwaysM d ((ren p k : Nat) : Int) := fun k hk => by
    unfold alwaysM offsD; rw [hs, hpl k hk]
  have hclk : ∀ k (hk : k < e.procs.length), e.procs[k].clocked = (d.procs[ren p k]'(hrl k hk)).clocked := fun k hk => by rw [hget k hk]
  have hnb : nBits e = nBits d := by unfold nBits; rw [hs]
  have hrgd := wsM_range hok hck
  have hrge := wsM_range heok hc2
  -- the drivers of what is left
  obtain ⟨o3, ho3⟩ : ∃ o, drvM (nBits e).toNat (wsM e) = some o := by
    refine drvM_some (fun l hl' => ⟨?_, hrge l hl'⟩) ?_
    · obtain ⟨k, hk, rfl⟩ := List.mem_map.1 hl'
      exact lt_nodup (numbersM_lt _ _ : (writesM e (k : Int)).Pairwise (· < ·))
    · intro i j l l' b h1 h2 h3 h4
      have hi : i < e.procs.length := by have := (List.getElem?_eq_some_iff.1 h1).1; rwa [wsM_length] at this
      have hj : j < e.procs.length := by have := (List.getElem?_eq_some_iff.1 h2).1; rwa [wsM_length] at this
      rw [wsM_get hi, hW i hi] at h1
      rw [wsM_get hj, hW j hj] at h2
      injection h1 with h1
      injection h2 with h2
      subst h1 h2
      exact ren_inj (drvM_disj hrgd hdm _ _ _ _ b (wsM_get (hrl i hi)) (wsM_get (hrl j hj)) h3 h4)
  have hde : drvD e = (0, o3) := by unfold drvD; rw [if_pos hc2, ho3]
  have hrel : ∀ i : Nat, i < (nBits d).toNat → ∀ k, k < e.procs.length → (o3[i]? = some (k : Int) ↔ by'[i]? = some ((ren p k : Nat) : Int)) := by
    intro i hi k hk
    rw [drvM_iff hrge ho3 i (by rw [hnb]; exact hi) k, drvM_iff hrgd hdm i hi (ren p k), wsM_get hk, wsM_get (hrl k hk), hW k hk]
  have hol := drvD_len heok hc2 ho3
  have hdl := drvD_len hok hck hdm
  have hnbl := nBits_le hok hck
  have hsum : ∀ s, s < d.signals.length → 0 ≤ sumW d.signals s ∧ sumW d.signals s ≤ sumW d.signals (s + 1) ∧ sumW d.signals (s + 1) ≤ nBits d := fun s hs' =>
    ⟨(sumW_le d.signals hwd s (by omega)).1, sumW_mono d.signals hwd s (s + 1) (by omega) (by omega), sumW_mono d.signals hwd (s + 1) d.signals.length (by omega) (Nat.le_refl _)⟩
  rw [lookM_ok hde]
  by_cases hc : d.procs[p].clocked = true
  · rw [if_pos hc]
    have h1 : noneF e.signals o3 0 e.signals = false := by
      rw [hs]
      refine noneF_mk fun s hs' hk hm => ?_
      obtain ⟨q1, q2, q3⟩ := hsum s hs'
      obtain ⟨i, i1, i2, i3⟩ := (mem_subM q1 q2 _).1 hm
      obtain ⟨q, g1, g2, g3, -, -, g6⟩ := hdr s hs' i i1 i2
      obtain ⟨g7, g8, g9, -⟩ := g6 hk
      have hqp : q.toNat ≠ p := fun e' => by
        subst e'
        rw [hc] at g9; cases g9
      obtain ⟨k, hk1, hk2⟩ := ren_back hp g8 hqp
      have := (hrel i (by omega) k (by omega)).2 (by rw [g1, hk2]; congr 1; omega)
      rw [i3] at this
      injection this with this
      omega
    have h2 : latF e 0 e.procs = false := latF_mk fun k hk hcl => by
      rw [hW k hk, hAl k hk]
      exact latF_false hlat _ (hrl k hk) (by rw [← hclk k hk]; exact hcl)
    rw [h1]
    unfold lookT
    rw [if_neg (by decide), if_neg (by rw [h2]; decide)]
    -- the order of what is left has all
    obtain ⟨cd, hord, hnr⟩ := orderM_spec (graphM d by') (clks d) ((graphM d by').length + 1) (List.replicate (graphM d by').length false) [] (Ord.nil _ _) (by have := falses_le (List.replicate (graphM d by').length false); simp at this; omega)
    rw [show orderM (graphM d by') (clks d) ((graphM d by').length + 1) (List.replicate (graphM d by').length false) [] = ordM (graphM d by') (clks d) from rfl] at hord
    obtain ⟨ce, horde, hnre⟩ := orderM_spec (graphM e o3) (clks e) ((graphM e o3).length + 1) (List.replicate (graphM e o3).length false) [] (Ord.nil _ _) (by have := falses_le (List.replicate (graphM e o3).length false); simp at this; omega)
    rw [show orderM (graphM e o3) (clks e) ((graphM e o3).length + 1) (List.replicate (graphM e o3).length false) [] = ordM (graphM e o3) (clks e) from rfl] at horde
    have hbeh := behind hok hl hd
    rw [hO] at hbeh
    have hrank := ord_rank hord (fun k hk hc' => by
      rw [graphM_length] at hk
      rw [clks_get d hk] at hc'
      exact hbeh.all k hk hc')
    have hgr := graphM_range heok hc2 hol.1 hol.2
    have hall := ord_all horde hnre (fun k => (ordM (graphM d by') (clks d)).idxOf ((ren p k : Nat) : Int)) (fun k hk hc' q hq => by
      rw [graphM_length] at hk
      rw [clks_get e hk, hclk k hk] at hc'
      have hgk := graphM_get e o3 hk
      rw [List.getD_eq_getElem?_getD, hgk] at hq
      simp only [Option.getD_some] at hq
      obtain ⟨q0, q1, b, q2, q3⟩ := (mem_hang _ _ _ _).1 hq
      have hqr := (hgr _ (List.mem_of_getElem? hgk)).2 q hq
      rw [graphM_length] at hqr ⊢
      refine ⟨q0, hqr.2, q1, ?_⟩
      have hb := readsM_range heok hc2 (p := (k : Int)) (by simpa using hk) b q2
      rw [hRd k hk] at q2
      have hbi : b.toNat < o3.length := by omega
      have hq3 : o3[b.toNat]? = some ((q.toNat : Nat) : Int) := by
        rw [List.getD_eq_getElem?_getD, List.getElem?_eq_getElem hbi] at q3
        rw [List.getElem?_eq_getElem hbi]
        simp only [Option.getD_some] at q3
        rw [q3]; congr 1; omega
      have hq4 := (hrel b.toNat (by omega) q.toNat hqr.2).1 hq3
      rw [clks_get e hqr.2, hclk _ hqr.2] at q1
      have := hrank (ren p k) (by rw [graphM_length]; exact hrl k hk) (by rw [clks_get d (hrl k hk)]; exact hc') ((ren p q.toNat : Nat) : Int) (by
        rw [List.getD_eq_getElem?_getD, graphM_get d by' (hrl k hk)]
        simp only [Option.getD_some]
        rw [mem_hang]
        refine ⟨by omega, by rw [Int.toNat_natCast, clks_get d (hrl _ hqr.2)]; exact q1, b, q2, ?_⟩
        rw [List.getD_eq_getElem?_getD, hq4]; rfl)
      simpa using this)
    rw [if_neg]
    have hwl := wires_list (clks e)
    have hcl : (clks e).length = e.procs.length := by simp [clks]
    have hle : (((List.range (clks e).length).filter fun k => !(clks e).getD k false).map fun (k : Nat) => (k : Int)).length ≤ (ordM (graphM e o3) (clks e)).length := by
      refine nodup_le _ _ ?_ ?_
      · exact List.Pairwise.map _ (fun a b (h : a ≠ b) (e' : (a : Int) = (b : Int)) => h (by omega)) (List.Pairwise.filter _ List.nodup_range)
      · intro x hx
        obtain ⟨k, hk, rfl⟩ := List.mem_map.1 hx
        obtain ⟨k1, k2⟩ := List.mem_filter.1 hk
        exact hall k (by rw [graphM_length, ← hcl]; exact List.mem_range.1 k1) (by simpa using k2)
    rw [List.length_map, hwl] at hle
    omega
  · rw [if_neg hc]
    have hcf : d.procs[p].clocked = false := by simpa using hc
    obtain ⟨b, hb⟩ := List.exists_mem_of_ne_nil _ hw
    obtain ⟨b0, b1⟩ := hrgd _ (List.mem_of_getElem? (wsM_get hp)) b hb
    obtain ⟨i, rfl⟩ : ∃ i : Nat, b = i := ⟨b.toNat, by omega⟩
    have hbi : by'[i]? = some (p : Int) := (drvM_iff hrgd hdm i (by omega) p).2 ⟨_, wsM_get hp, hb⟩
    obtain ⟨s, s1, s2, s3⟩ := sumW_find d.signals (i : Int) (by omega) d.signals.length (Nat.le_refl _) (by unfold nBits at *; omega)
    obtain ⟨q, g1, g2, g3, g4, g5, g6⟩ := hdr s s1 i s2 s3
    rw [hbi] at g1
    injection g1 with g1
    subst g1
    have hkr : 1 ≤ d.signals[s].kind ∧ d.signals[s].kind ≤ 4 := by
      have h2 := ((checkM_iff d).1 hck).2.1
      unfold shapedM at h2
      simp only [Bool.and_eq_true] at h2
      exact sigsOk_kind _ _ h2.1.1 _ (List.getElem_mem s1)
    have hk1 : d.signals[s].kind ≠ 1 := fun h => by have := g4 h; omega
    have hk4 : d.signals[s].kind ≠ 4 := fun h => by
      obtain ⟨_, h4⟩ := g5 h (by omega)
      simp only [Int.toNat_natCast] at h4
      rw [hcf] at h4; cases h4
    have hk23 : d.signals[s].kind = 2 ∨ d.signals[s].kind = 3 := by omega
    have hi3 : i < o3.length := by omega
    have ho : o3[i]? = some (-1) := by
      rcases drvM_get hrge ho3 i (by omega) with ⟨h1, -⟩ | ⟨k, l, h1, h2, h3, -⟩
      · exact h1
      · exfalso
        have hk : k < e.procs.length := by have := (List.getElem?_eq_some_iff.1 h1).1; rwa [wsM_length] at this
        have := (hrel i (by omega) k hk).1 h3
        rw [hbi] at this
        injection this with this
        exact ren_ne p k (by omega)
    have hn : noneF e.signals o3 0 e.signals = true := by
      refine Decidable.byContradiction fun hn => ?_
      have hn' : noneF e.signals o3 0 e.signals = false := by simpa using hn
      obtain ⟨q1, q2, q3⟩ := hsum s s1
      refine noneF_false hn' s (by rw [hs]; exact s1) (by simpa only [hs] using hk23) ?_
      rw [hs]
      exact (mem_subM q1 q2 _).2 ⟨i, s2, s3, ho⟩
    rw [hn]
    rfl
end Go.Proofs.YthpemngachlehaaGreat

namespace Go.Proofs.YthpemngachlehaaGreat
open Go.RowKit

/-! ### plain: small designs with a process more or less are small -/
theorem maxBy_sub {α : Type} (f : α → Nat) (a b : List α) (h : ∀ x ∈ a, x ∈ b) : maxBy f a ≤ maxBy f b := by
  have key : ∀ l : List α, ∀ x ∈ l, f x ≤ maxBy f l := by
    intro l
    induction l with
    | nil => intro x hx; cases hx
    | cons y l ih =>
      intro x hx
      rw [maxBy]
      rcases List.mem_cons.1 hx with e | hx
      · rw [e]; omega
      · have := ih x hx; omega
  induction a with
  | nil => simp [maxBy]
  | cons x a ih =>
    rw [maxBy]
    have h1 := ih fun y hy => h y (by simp [hy])
    have h2 := key b x (h x (by simp))
    omega
theorem sub_fits {d e : Flat} (hok : d.ok) (hf : few12 d = true) (hc : checkM d = 0) (hs : e.signals = d.signals) (hch : e.checks = d.checks) (hm : ∀ x ∈ e.procs, x ∈ d.procs) (hl : e.procs.length ≤ d.procs.length + 1)
    (hn : sumBy (fun p : Proc => sumBy nodesT p.l) e.procs ≤ 2 * sumBy (fun p : Proc => sumBy nodesT p.l) d.procs) : e.ok ∧ fitsM e = true := by
  unfold few12 small at hf
  simp only [Bool.and_eq_true, decide_eq_true_eq] at hf
  have h0 := ((checkM_iff d).1 hc).1
  unfold fitsM at h0
  simp only [Bool.and_eq_true, decide_eq_true_eq] at h0
  have hmx := maxBy_sub (fun p : Proc => maxBy deepT p.l) e.procs d.procs hm
  have h1 : mNodes e ≤ 2 * mNodes d := by unfold mNodes; rw [hch]; omega
  have h2 : mDeep e ≤ mDeep d := by unfold mDeep; rw [hch]; omega
  have h3 := hok.signals
  have h4 := hok.checks
  refine ⟨⟨⟨by rw [hs]; exact hok.wf.signals, fun p hp => hok.wf.procs p (hm p hp), by rw [hch]; exact hok.wf.checks⟩, by omega, by rw [hs]; omega, by omega, by rw [hch]; omega⟩, ?_⟩
  unfold fitsM
  simp only [Bool.and_eq_true, decide_eq_true_eq]
  rw [hs]
  omega
theorem nodes_more (d : Flat) {p : Nat} (hp : p < d.procs.length) : sumBy (fun p : Proc => sumBy nodesT p.l) (d.procs ++ [d.procs[p]]) ≤ 2 * sumBy (fun p : Proc => sumBy nodesT p.l) d.procs := by
  have := le_sumBy (fun p : Proc => sumBy nodesT p.l) d.procs _ (List.getElem_mem hp)
  rw [sumBy_append]
  simp only [sumBy]
  omega
theorem nodes_less (d : Flat) (p : Nat) : sumBy (fun p : Proc => sumBy nodesT p.l) (d.procs.take p ++ d.procs.drop (p + 1)) ≤ 2 * sumBy (fun p : Proc => sumBy nodesT p.l) d.procs := by
  have h1 : sumBy (fun p : Proc => sumBy nodesT p.l) d.procs = sumBy (fun p : Proc => sumBy nodesT p.l) (d.procs.take p) + sumBy (fun p : Proc => sumBy nodesT p.l) (d.procs.drop p) := by
    rw [← sumBy_append, List.take_append_drop]
  have h2 : sumBy (fun p : Proc => sumBy nodesT p.l) (d.procs.drop (p + 1)) ≤ sumBy (fun p : Proc => sumBy nodesT p.l) (d.procs.drop p) := by
    rw [show d.procs.drop (p + 1) = (d.procs.drop p).drop 1 by rw [List.drop_drop]]
    cases d.procs.drop p with
    | nil => simp
    | cons x l => simp only [List.drop_succ_cons, List.drop_zero, sumBy]; omega
  rw [sumBy_append]
  omega
/-- the law, of the two designs -/
theorem spoilt {d : Flat} (hok : d.ok) (hf : few12 d = true) (hl : (lookM d).1 = 0) {p : Nat} (hp : p < d.procs.length) (hw : writesM d (p : Int) ≠ []) :
    Flat.ok ⟨d.signals, d.procs ++ [d.procs[p]], d.checks⟩ ∧ (lookM ⟨d.signals, d.procs ++ [d.procs[p]], d.checks⟩).1 = 120 ∧
    Flat.ok ⟨d.signals, d.procs.take p ++ d.procs.drop (p + 1), d.checks⟩ ∧ (lookM ⟨d.signals, d.procs.take p ++ d.procs.drop (p + 1), d.checks⟩).1 = if d.procs[p].clocked = true then 0 else 121 := by
  have hck := (lookM_zero hok hl).1
  obtain ⟨a1, a2⟩ := sub_fits (e := ⟨d.signals, d.procs ++ [d.procs[p]], d.checks⟩) hok hf hck rfl rfl (fun x hx => by
    rcases List.mem_append.1 hx with h | h
    · exact h
    · rw [List.mem_singleton.1 h]; exact List.getElem_mem hp) (by simp) (nodes_more d hp)
  obtain ⟨b1, b2⟩ := sub_fits (e := ⟨d.signals, d.procs.take p ++ d.procs.drop (p + 1), d.checks⟩) hok hf hck rfl rfl (fun x hx => by
    rcases List.mem_append.1 hx with h | h
    · exact List.mem_of_mem_take h
    · exact List.mem_of_mem_drop h) (by simp; omega) (nodes_less d p)
  exact ⟨a1, more_two hck hp hw rfl rfl rfl a1 a2, b1, less_ok hok hl hp hw rfl rfl rfl b1 b2⟩
theorem and16 (x : Int) : ∃ m : Nat, bits .and .i64 x 65535 = (m : Int) ∧ m ≤ 65535 := by
  have h : (BitVec.ofInt 64 x &&& BitVec.ofInt 64 65535).toNat ≤ 65535 := by
    rw [BitVec.toNat_and]; exact Nat.le_trans Nat.and_le_right (by decide)
  refine ⟨(BitVec.ofInt 64 x &&& BitVec.ofInt 64 65535).toNat, ?_, h⟩
  show IntKind.wrap .i64 (((BitVec.ofInt 64 x &&& BitVec.ofInt 64 65535).toNat : Nat) : Int) = _
  generalize (BitVec.ofInt 64 x &&& BitVec.ofInt 64 65535).toNat = m at *
  unfold IntKind.wrap
  simp [IntKind.bits]
  omega
end Go.Proofs.YthpemngachlehaaGreat

namespace Go.Proofs.YthpemngachlehaaGreat
open Go.RowKit

/-! ### rows of processes -/
theorem procs_css {w : World} (l : List Proc) : ∀ (b o : Nat), Rows 2 (ProcAt w) l b o → ∃ css : List (List Value), css.length = l.length ∧ (∀ cs ∈ css, cs.length = 2) ∧ css.flatten.all (·.oneCell') = true ∧ Has w b o css.flatten ∧ ∀ i (h : i < css.length) (h' : i < l.length), VProc w css[i] l[i] := by
  induction l with
  | nil => intro b o _; exact ⟨[], rfl, by simp, rfl, fun j u h => by simp at h, fun i h => by simp at h⟩
  | cons x l ih =>
    intro b o h
    obtain ⟨css, h1, h2, h3, h4, h5⟩ := ih b (o + 2) h.2
    obtain ⟨s, q1, q2⟩ := h.1
    refine ⟨x.cells s :: css, by simp [h1], ?_, ?_, ?_, ?_⟩
    · intro cs hc
      rcases List.mem_cons.1 hc with rfl | hc
      · rfl
      · exact h2 cs hc
    · rw [List.flatten_cons, List.all_append, h3, Bool.and_true]
      exact VProc.one (w := w) (x := x) ⟨s, rfl, q2⟩
    · rw [List.flatten_cons]
      intro j u hj
      by_cases hlt : j < 2
      · rw [List.getElem?_append_left (by simpa using hlt)] at hj
        exact q1 j u hj
      · have h2' : (x.cells s).length = 2 := rfl
        rw [List.getElem?_append_right (by omega)] at hj
        have := h4 (j - 2) u (by rwa [h2'] at hj)
        rwa [show o + 2 + (j - 2) = o + j by omega] at this
    · intro i hi hi'
      cases i with
      | zero => exact ⟨s, rfl, q2⟩
      | succ i => simpa using h5 i (by simpa using hi) (by simpa using hi')

theorem ownsRow_procs {w : World} {N g n cap : Nat} {css : List (List Value)} (h : w.ownsRow N 38 2 (.slice (some ⟨g, 0, none⟩) n cap) n css.flatten) (l : List Proc) (hn : n = l.length) (hl : css.length = l.length) (h2 : ∀ cs ∈ css, cs.length = 2)
    (hv : ∀ i (h : i < css.length) (h' : i < l.length), VProc w css[i] l[i]) : Procs w (.slice (some ⟨g, 0, none⟩) n cap) l := by
  have hh : Has w g 0 css.flatten := by
    intro j u hj
    have := h.cells (g := g) rfl j u hj
    have hadd : (⟨g, 0, none⟩ : Addr).add j = ⟨g, 0 + j, none⟩ := by unfold Addr.add; split <;> simp_all
    rwa [hadd] at this
  rcases h.2 with ⟨h0, -⟩ | ⟨g', cap', cur, e, hb, hgg, hnc, hcm, -⟩
  · cases h0
  · injection e with e1 e2 e3
    subst e3
    refine ⟨g, 0, ⟨_, cap, by rw [hn], by omega, hcm, fun _ => rfl⟩, rows_of_flat (V := VProc) (fun _ _ _ _ _ h hv => VProc.at h hv) l css w g 0 hh hl h2 hv⟩

theorem step_app {P : Program} {ops : Array Oper} {o : Oper} {a : Act} {w : World} {K : Act → World → Prop} {Q : Exit → Act → World → Prop} {E : Prop} (hw : Region.wanted o (yielded ops a.tmps) = true) (s x : Operand) (t : TypeId)
    (ho : o.op = .call { callee := .builtin .append, args := #[s, x], argTypes := #[t, t] }) {base : Nat} {e : TypeId} {size bytes : Nat} (hT : AppT P t e size bytes)
    {v : Value} {n : Nat} {xs : List Value} (hs : a.eval s = v) (hown : w.ownsRow base e size v n xs) {ad : Addr} {m c : Nat} (hx : a.eval x = .slice (some ad) m c) (hm : v = .slice none 0 0 → 0 < m) {news : List Value} (hl : news.length = m * size)
    (hnews : ∀ j u, news[j]? = some u → w.cell? (ad.add j) = some u) (h1 : news.all (·.oneCell') = true) (hn : n + m ≤ 16777216) (hbase : base ≤ w.heap.size)
    (h : ∀ g cap w', w'.ownsRow base e size (.slice (some ⟨g, 0, none⟩) (n + m) cap) (n + m) (xs ++ news) → w.grownBy w' v.ownBlock → (v.ownBlock = some g ∨ w.heap.size ≤ g) →
      K (a.put o.dst (.slice (some ⟨g, 0, none⟩) (n + m) cap)) w') : if Region.wanted o (yielded ops a.tmps) = true then Oper.wp P o a w K Q else E := by
  rw [if_pos hw]
  obtain ⟨v', w', hr, h2, h3, g, cap, rfl, hg⟩ := run_app (P := P) (ty := o.type) hT hown hm hl hnews h1 hn hbase
  unfold Oper.wp execOp
  simp only [ho, resolve, invoke, builtin, Sem.run_bind, Sem.run_pure, Result.andThen_ok, List.map_toArray, List.map_cons, List.map_nil, hs, hx]
  rw [hr]
  exact h g cap w' h2 h3 hg

/-- the cells at a slice's address -/
theorem news_of {w : World} {b o : Nat} {cs : List Value} (h : Has w b o cs) : ∀ j u, cs[j]? = some u → w.cell? ((⟨b, o, none⟩ : Addr).add j) = some u := by
  intro j u hj
  have hadd : (⟨b, o, none⟩ : Addr).add j = ⟨b, o + j, none⟩ := by unfold Addr.add; split <;> simp_all
  rw [hadd]; exact h j u hj
theorem Has.pre2 {w : World} {b o : Nat} {a c : List Value} (h : Has w b o (a ++ c)) : Has w b o a := fun j u hj => h j u (by rw [List.getElem?_append_left (List.getElem?_eq_some_iff.1 hj).1]; exact hj)
theorem Has.post2 {w : World} {b o : Nat} {a c : List Value} (h : Has w b o (a ++ c)) : Has w b (o + a.length) c := fun j u hj => by
  have := h (a.length + j) u (by rw [List.getElem?_append_right (by omega), Nat.add_sub_cancel_left]; exact hj)
  rwa [show o + a.length + j = o + (a.length + j) by omega]
theorem flat2 {css : List (List Value)} (h : ∀ cs ∈ css, cs.length = 2) : css.flatten.length = css.length * 2 := flat_len h
theorem css_cut {w : World} {b o : Nat} {css : List (List Value)} (h2 : ∀ cs ∈ css, cs.length = 2) (h : Has w b o css.flatten) (p : Nat) (hp : p < css.length) :
    Has w b o (css.take p).flatten ∧ Has w b (o + p * 2) css[p] ∧ Has w b (o + (p + 1) * 2) (css.drop (p + 1)).flatten := by
  have e : css.flatten = (css.take p).flatten ++ (css[p] ++ (css.drop (p + 1)).flatten) := by
    rw [← List.flatten_cons, ← List.drop_eq_getElem_cons hp, ← List.flatten_append, List.take_append_drop]
  rw [e] at h
  have hl : (css.take p).flatten.length = p * 2 := by
    rw [flat2 (fun cs hc => h2 cs (List.mem_of_mem_take hc)), List.length_take]
    congr 1; omega
  have h3 := h.post2
  rw [hl] at h3
  refine ⟨h.pre2, h3.pre2, ?_⟩
  have h4 := h3.post2
  rw [h2 _ (List.getElem_mem hp)] at h4
  rwa [show o + (p + 1) * 2 = o + p * 2 + 2 by omega]
theorem one_take {css : List (List Value)} (h : css.flatten.all (·.oneCell') = true) (p : Nat) : (css.take p).flatten.all (·.oneCell') = true := by
  rw [List.all_eq_true] at h ⊢
  intro v hv
  obtain ⟨cs, hc, hv⟩ := List.mem_flatten.1 hv
  exact h v (List.mem_flatten.2 ⟨cs, List.mem_of_mem_take hc, hv⟩)
theorem one_drop {css : List (List Value)} (h : css.flatten.all (·.oneCell') = true) (p : Nat) : (css.drop p).flatten.all (·.oneCell') = true := by
  rw [List.all_eq_true] at h ⊢
  intro v hv
  obtain ⟨cs, hc, hv⟩ := List.mem_flatten.1 hv
  exact h v (List.mem_flatten.2 ⟨cs, List.mem_of_mem_drop hc, hv⟩)
theorem Ext.blkHas {w w' : World} {b o : Nat} {cs : List Value} (hx : Ext w w') (h : Has w b o cs) : Has w' b o cs := h.ext hx
end Go.Proofs.YthpemngachlehaaGreat
