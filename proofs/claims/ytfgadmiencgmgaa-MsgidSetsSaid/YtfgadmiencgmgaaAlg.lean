/- sets of identities in plain Lean: strictly ascending lists and their merging -/
import Derived.Test.YtfgadmiencgmgaaOps
namespace Go.Proofs.XK
open Go.RowKit Go.Shelf Go.Sort
set_option linter.unusedVariables false
def Asc (l : List I32) : Prop := l.Pairwise fun x y => num x.1 < num y.1
theorem asc_unique : ∀ {a b : List I32}, Asc a → Asc b → (∀ x, x ∈ a ↔ x ∈ b) → a = b
  | [], [], _, _, _ => rfl
  | [], y :: b, _, _, h => absurd ((h y).2 (List.mem_cons_self ..)) (by simp)
  | x :: a, [], _, _, h => absurd ((h x).1 (List.mem_cons_self ..)) (by simp)
  | x :: a, y :: b, ha, hb, h => by
    obtain ⟨ha1, ha2⟩ := List.pairwise_cons.1 ha
    obtain ⟨hb1, hb2⟩ := List.pairwise_cons.1 hb
    have hxy : x = y := by
      rcases List.mem_cons.1 ((h x).1 (List.mem_cons_self ..)) with e | e
      · exact e
      · rcases List.mem_cons.1 ((h y).2 (List.mem_cons_self ..)) with e' | e'
        · exact e'.symm
        · have := hb1 x e
          have := ha1 y e'
          omega
    subst hxy
    rw [asc_unique ha2 hb2 fun z => ⟨fun hz => by
      rcases List.mem_cons.1 ((h z).1 (List.mem_cons_of_mem _ hz)) with e | e
      · subst e; have := ha1 z hz; omega
      · exact e, fun hz => by
      rcases List.mem_cons.1 ((h z).2 (List.mem_cons_of_mem _ hz)) with e | e
      · subst e; have := hb1 z hz; omega
      · exact e⟩]
theorem cf_lt (x y : I32) : cf x y < 0 ↔ num x.1 < num y.1 := by
  have := ltOf_cf x y
  unfold ltOf at this
  exact decide_eq_decide.1 this
theorem cf_gt (x y : I32) : 0 < cf x y ↔ num y.1 < num x.1 := by
  rw [← cf_lt y x]
  have : cf y x = - cf x y := cmp_neg x.1 y.1
  omega
/-- who is in a merged list -/
theorem mem_mrg (keep : Bool → Bool → Bool) (a b : List I32) (ha : Asc a) (hb : Asc b) (z : I32) :
    z ∈ mrg keep a b ↔ (z ∈ a ∧ z ∉ b ∧ keep true false = true) ∨ (z ∉ a ∧ z ∈ b ∧ keep false true = true) ∨ (z ∈ a ∧ z ∈ b ∧ keep true true = true) := by
  fun_induction mrg keep a b with
  | case1 => simp
  | case2 y b ih =>
    have := ih ha (List.pairwise_cons.1 hb).2
    rw [List.mem_append, this]
    have hn : ∀ w ∈ b, num y.1 < num w.1 := (List.pairwise_cons.1 hb).1
    by_cases hk : keep false true = true <;> simp [hk]
  | case3 x a ih =>
    have := ih (List.pairwise_cons.1 ha).2 hb
    rw [List.mem_append, this]
    by_cases hk : keep true false = true <;> simp [hk]
  | case4 x a y b h ih =>
    have hx := (cf_lt x y).1 h
    have ha1 := (List.pairwise_cons.1 ha).1
    have hb1 := (List.pairwise_cons.1 hb).1
    have := ih (List.pairwise_cons.1 ha).2 hb
    rw [List.mem_append, this]
    have hxb : x ∉ y :: b := fun hm => by
      rcases List.mem_cons.1 hm with e | e
      · rw [e] at hx; omega
      · have := hb1 x e; omega
    have hxa : x ∉ a := fun hm => by have := ha1 x hm; omega
    by_cases hz : z = x
    · subst hz
      by_cases hk : keep true false = true <;> simp [hk, hxb, hxa]
    · have hz1 : z ∈ x :: a ↔ z ∈ a := by simp [hz]
      have hz2 : z ∉ (if keep true false = true then [x] else []) := by split <;> simp [hz]
      simp only [hz1, hz2, false_or]
  | case5 x a y b h h2 ih =>
    have hy := (cf_gt x y).1 h2
    have ha1 := (List.pairwise_cons.1 ha).1
    have hb1 := (List.pairwise_cons.1 hb).1
    have := ih ha (List.pairwise_cons.1 hb).2
    rw [List.mem_append, this]
    have hya : y ∉ x :: a := fun hm => by
      rcases List.mem_cons.1 hm with e | e
      · rw [e] at hy; omega
      · have := ha1 y e; omega
    have hyb : y ∉ b := fun hm => by have := hb1 y hm; omega
    by_cases hz : z = y
    · subst hz
      by_cases hk : keep false true = true <;> simp [hk, hya, hyb]
    · have hz1 : z ∈ y :: b ↔ z ∈ b := by simp [hz]
      have hz2 : z ∉ (if keep false true = true then [y] else []) := by split <;> simp [hz]
      simp only [hz1, hz2, false_or]
  | case6 x a y b h h2 ih =>
    have hxy : x = y := by
      apply num_inj
      have h3 : ¬ num x.1 < num y.1 := fun q => h ((cf_lt x y).2 q)
      have h4 : ¬ num y.1 < num x.1 := fun q => h2 ((cf_gt x y).2 q)
      omega
    subst hxy
    have ha1 := (List.pairwise_cons.1 ha).1
    have hb1 := (List.pairwise_cons.1 hb).1
    have := ih (List.pairwise_cons.1 ha).2 (List.pairwise_cons.1 hb).2
    rw [List.mem_append, this]
    have hxa : x ∉ a := fun hm => by have := ha1 x hm; omega
    have hxb : x ∉ b := fun hm => by have := hb1 x hm; omega
    by_cases hz : z = x
    · subst hz
      by_cases hk : keep true true = true <;> simp [hk, hxa, hxb]
    · have hz1 : z ∈ x :: a ↔ z ∈ a := by simp [hz]
      have hz3 : z ∈ x :: b ↔ z ∈ b := by simp [hz]
      have hz2 : z ∉ (if keep true true = true then [x] else []) := by split <;> simp [hz]
      simp only [hz1, hz2, hz3, false_or]
theorem mrg_asc (keep : Bool → Bool → Bool) (a b : List I32) (ha : Asc a) (hb : Asc b) : Asc (mrg keep a b) := by
  have cons : ∀ (p : Bool) (x : I32) (l : List I32), Asc l → (∀ z ∈ l, num x.1 < num z.1) → Asc ((if p = true then [x] else []) ++ l) := fun p x l hl hx => by
    cases p
    · simpa using hl
    · exact List.pairwise_cons.2 ⟨hx, hl⟩
  fun_induction mrg keep a b with
  | case1 => exact List.Pairwise.nil
  | case2 y b ih =>
    obtain ⟨hb1, hb2⟩ := List.pairwise_cons.1 hb
    refine cons _ _ _ (ih ha hb2) fun z hz => ?_
    rcases (mem_mrg keep [] b ha hb2 z).1 hz with h | h | h
    · exact absurd h.1 (by simp)
    · exact hb1 z h.2.1
    · exact hb1 z h.2.1
  | case3 x a ih =>
    obtain ⟨ha1, ha2⟩ := List.pairwise_cons.1 ha
    refine cons _ _ _ (ih ha2 hb) fun z hz => ?_
    rcases (mem_mrg keep a [] ha2 hb z).1 hz with h | h | h
    · exact ha1 z h.1
    · exact absurd h.2.1 (by simp)
    · exact ha1 z h.1
  | case4 x a y b h ih =>
    have hx := (cf_lt x y).1 h
    obtain ⟨ha1, ha2⟩ := List.pairwise_cons.1 ha
    have hb1 := (List.pairwise_cons.1 hb).1
    have hy : ∀ z ∈ y :: b, num x.1 < num z.1 := fun z hz => by
      rcases List.mem_cons.1 hz with e | e
      · rw [e]; exact hx
      · have := hb1 z e; omega
    refine cons _ _ _ (ih ha2 hb) fun z hz => ?_
    rcases (mem_mrg keep a (y :: b) ha2 hb z).1 hz with h | h | h
    · exact ha1 z h.1
    · exact hy z h.2.1
    · exact ha1 z h.1
  | case5 x a y b h h2 ih =>
    have hy := (cf_gt x y).1 h2
    have ha1 := (List.pairwise_cons.1 ha).1
    obtain ⟨hb1, hb2⟩ := List.pairwise_cons.1 hb
    have hx : ∀ z ∈ x :: a, num y.1 < num z.1 := fun z hz => by
      rcases List.mem_cons.1 hz with e | e
      · rw [e]; exact hy
      · have := ha1 z e; omega
    refine cons _ _ _ (ih ha hb2) fun z hz => ?_
    rcases (mem_mrg keep (x :: a) b ha hb2 z).1 hz with h | h | h
    · exact hx z h.1
    · exact hb1 z h.2.1
    · exact hb1 z h.2.1
  | case6 x a y b h h2 ih =>
    have hxy : x = y := by
      apply num_inj
      have h3 : ¬ num x.1 < num y.1 := fun q => h ((cf_lt x y).2 q)
      have h4 : ¬ num y.1 < num x.1 := fun q => h2 ((cf_gt x y).2 q)
      omega
    subst hxy
    obtain ⟨ha1, ha2⟩ := List.pairwise_cons.1 ha
    obtain ⟨hb1, hb2⟩ := List.pairwise_cons.1 hb
    refine cons _ _ _ (ih ha2 hb2) fun z hz => ?_
    rcases (mem_mrg keep a b ha2 hb2 z).1 hz with h | h | h
    · exact ha1 z h.1
    · exact hb1 z h.2.1
    · exact ha1 z h.1
theorem srt_le (zs : List I32) : (srt zs).Pairwise fun x y => num x.1 ≤ num y.1 := by
  have h := List.pairwise_mergeSort (le := fun x y => !(ltOf cf) y x) (fun a b c h1 h2 => by rw [ltOf_cf] at *; simp at *; omega) (fun a b => by rw [ltOf_cf, ltOf_cf]; simp; omega) zs
  refine h.imp fun {x y} h => ?_
  rw [ltOf_cf] at h
  simpa using h
theorem compact_asc (d : Array I32) (hd : ∀ i j, i ≤ j → j < d.size → num d[i]!.1 ≤ num d[j]!.1) : ∀ m, m ≤ d.size → Asc (Lib.compactUpTo d m)
  | 0, _ => by simp [Lib.compactUpTo, Asc]
  | m + 1, h => by
    have ih := compact_asc d hd m (by omega)
    rw [Lib.compactUpTo_succ]
    by_cases hk : Lib.keeps d m = true
    · rw [if_pos hk]
      refine List.pairwise_append.2 ⟨ih, List.pairwise_singleton _ _, fun x hx y hy => ?_⟩
      obtain ⟨j, hj, rfl⟩ := (mem_compact d x m (by omega)).1 hx
      rw [List.mem_singleton.1 hy]
      have h2 : m = 0 ∨ d[m]! ≠ d[m - 1]! := by simpa [Lib.keeps] using hk
      have h3 : d[m]! ≠ d[m - 1]! := by
        rcases h2 with e | e
        · omega
        · exact e
      have h4 := hd j (m - 1) (by omega) (by omega)
      have h5 := hd (m - 1) m (by omega) (by omega)
      have h6 : num d[m]!.1 ≠ num d[m - 1]!.1 := fun e => h3 (num_inj _ _ e)
      omega
    · rw [if_neg hk, List.append_nil]
      exact ih
theorem sset_asc (zs : List I32) : Asc (sset zs) := by
  refine compact_asc _ (fun i j hij hj => ?_) _ (Nat.le_refl _)
  have hj' : j < (srt zs).length := by simpa using hj
  rw [getElem!_pos (srt zs).toArray i (by simp; omega), getElem!_pos (srt zs).toArray j (by simpa using hj)]
  rcases Nat.lt_or_eq_of_le hij with h | h
  · have := List.pairwise_iff_getElem.1 (srt_le zs) i j (by omega) hj' h
    simpa using this
  · subst h; exact Nat.le_refl _
/-- the two equations of the law -/
theorem algebra1 (a b c : List I32) : mrg kM (sset a) (sset (mrg kU (sset b) (sset c))) = mrg kM (sset (mrg kM (sset a) (sset b))) (sset c) := by
  refine asc_unique (mrg_asc _ _ _ (sset_asc _) (sset_asc _)) (mrg_asc _ _ _ (sset_asc _) (sset_asc _)) fun z => ?_
  simp only [mem_mrg, sset_asc, mem_sset, kM, kU]
  by_cases h1 : z ∈ a <;> by_cases h2 : z ∈ b <;> by_cases h3 : z ∈ c <;> simp [h1, h2, h3]
theorem algebra2 (a b : List I32) : mrg kU (sset (mrg kB (sset a) (sset b))) (sset (mrg kM (sset a) (sset b))) = sset a := by
  refine asc_unique (mrg_asc _ _ _ (sset_asc _) (sset_asc _)) (sset_asc _) fun z => ?_
  simp only [mem_mrg, sset_asc, mem_sset, kM, kU, kB]
  by_cases h1 : z ∈ a <;> by_cases h2 : z ∈ b <;> simp [h1, h2]
end Go.Proofs.XK
