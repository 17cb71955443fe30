/- the shortest prefix in plain Lean -/
import Derived.Test.YtfgadmiencgmgaaDoorRRes
namespace Go.Proofs.XK
open Go.RowKit Go.Shelf Go.Sort
set_option linter.unusedVariables false
/-- how many digits two texts have in common -/
def lcp : List UInt8 → List UInt8 → Nat
  | a :: s, b :: t => if a = b then lcp s t + 1 else 0
  | _, _ => 0
theorem lcp_spec : ∀ (s t : List UInt8), s.length = t.length → s ≠ t → lcp s t < s.length ∧ s.getD (lcp s t) 0 ≠ t.getD (lcp s t) 0 ∧ ∀ j, j < lcp s t → s.getD j 0 = t.getD j 0
  | [], [], _, h => absurd rfl h
  | [], _ :: _, h, _ => by simp at h
  | _ :: _, [], h, _ => by simp at h
  | a :: s, b :: t, hl, h => by
    unfold lcp
    by_cases e : a = b
    · subst e
      rw [if_pos rfl]
      have ih := lcp_spec s t (by simpa using hl) (fun e => h (by rw [e]))
      refine ⟨by rw [List.length_cons]; omega, by simpa using ih.2.1, fun j hj => ?_⟩
      cases j with
      | zero => rfl
      | succ j => simpa using ih.2.2 j (by omega)
    · rw [if_neg e]
      exact ⟨by simp, by simpa using e, fun j hj => absurd hj (Nat.not_lt_zero _)⟩
def cpl (x z : I32) : Nat := lcp (MsgPure.hex z.1) (MsgPure.hex x.1)
theorem hex_len (x : I32) : (MsgPure.hex x.1).length = 64 := by rw [MsgPure.hex_length, x.2]
theorem hex_inj {x z : I32} (h : MsgPure.hex x.1 = MsgPure.hex z.1) : x = z := Subtype.ext (by rw [← MsgPure.unhex_hex x.1, h, MsgPure.unhex_hex])
theorem cpl_spec {x z : I32} (h : z ≠ x) : cpl x z < 64 ∧ (MsgPure.hex z.1).getD (cpl x z) 0 ≠ (MsgPure.hex x.1).getD (cpl x z) 0 ∧ ∀ j, j < cpl x z → (MsgPure.hex z.1).getD j 0 = (MsgPure.hex x.1).getD j 0 := by
  have := lcp_spec (MsgPure.hex z.1) (MsgPure.hex x.1) (by rw [hex_len, hex_len]) (fun e => h (hex_inj e))
  rw [hex_len] at this
  exact this
/-- the digits that Shorten takes -/
def sn (x : I32) (l : List I32) : Nat := l.foldl (fun n z => if z = x then n else max n (cpl x z + 1)) 4
theorem sn_snoc (x : I32) (l : List I32) (z : I32) : sn x (l ++ [z]) = if z = x then sn x l else max (sn x l) (cpl x z + 1) := by simp [sn]
theorem sn_fold (x : I32) (l : List I32) : ∀ m n : Nat, (l.foldl (fun n z => if z = x then n else max n (cpl x z + 1)) m) ≤ n ↔ m ≤ n ∧ ∀ z ∈ l, z ≠ x → cpl x z + 1 ≤ n := by
  induction l with
  | nil => intro m n; simp
  | cons z l ih =>
    intro m n
    rw [List.foldl_cons, ih]
    by_cases h : z = x
    · rw [if_pos h]
      constructor
      · rintro ⟨h1, h2⟩
        exact ⟨h1, fun y hy hne => (List.mem_cons.1 hy).elim (fun e => absurd (e.trans h) hne) (fun hy => h2 y hy hne)⟩
      · rintro ⟨h1, h2⟩
        exact ⟨h1, fun y hy hne => h2 y (List.mem_cons_of_mem _ hy) hne⟩
    · rw [if_neg h]
      constructor
      · rintro ⟨h1, h2⟩
        exact ⟨by omega, fun y hy hne => (List.mem_cons.1 hy).elim (fun e => by rw [e]; omega) (fun hy => h2 y hy hne)⟩
      · rintro ⟨h1, h2⟩
        have := h2 z (List.mem_cons_self ..) h
        exact ⟨by omega, fun y hy hne => h2 y (List.mem_cons_of_mem _ hy) hne⟩
theorem sn_le (x : I32) (l : List I32) (n : Nat) : sn x l ≤ n ↔ 4 ≤ n ∧ ∀ z ∈ l, z ≠ x → cpl x z + 1 ≤ n := sn_fold x l 4 n
theorem sn_ge (x : I32) (l : List I32) : 4 ≤ sn x l := ((sn_le x l _).1 (Nat.le_refl _)).1
theorem sn_64 (x : I32) (l : List I32) : sn x l ≤ 64 := (sn_le x l 64).2 ⟨by decide, fun z _ h => by have := (cpl_spec h).1; omega⟩
theorem pfx_take (x z : I32) (n : Nat) (hn : n ≤ 64) : pfx ((MsgPure.hex x.1).take n) z = true ↔ ∀ j, j < n → (MsgPure.hex z.1).getD j 0 = (MsgPure.hex x.1).getD j 0 := by
  have h1 := hex_len x
  have h2 := hex_len z
  unfold pfx Lib.hasPrefix
  rw [List.isPrefixOf_iff_prefix, List.prefix_iff_eq_take, List.length_take, h1, Nat.min_eq_left hn]
  constructor
  · intro e j hj
    have := congrArg (fun l => l.getD j 0) e
    simp only [List.getD_eq_getElem?_getD, List.getElem?_take, if_pos hj] at this
    rw [List.getD_eq_getElem?_getD, List.getD_eq_getElem?_getD, this]
  · intro h
    apply List.ext_getElem?
    intro j
    rw [List.getElem?_take, List.getElem?_take]
    by_cases hj : j < n
    · rw [if_pos hj, if_pos hj]
      have := h j hj
      rw [List.getD_eq_getElem?_getD, List.getD_eq_getElem?_getD, List.getElem?_eq_getElem (by omega), List.getElem?_eq_getElem (by omega)] at this
      rw [List.getElem?_eq_getElem (by omega), List.getElem?_eq_getElem (by omega)]
      simpa using this.symm
    · rw [if_neg hj, if_neg hj]
theorem pfx_cpl {x z : I32} (h : z ≠ x) (n : Nat) (hn : n ≤ 64) : pfx ((MsgPure.hex x.1).take n) z = true ↔ n ≤ cpl x z := by
  rw [pfx_take x z n hn]
  have hc := cpl_spec h
  constructor
  · intro h1
    rcases Nat.lt_or_ge (cpl x z) n with h2 | h2
    · exact absurd (h1 _ h2) hc.2.1
    · exact h2
  · intro h1 j hj
    exact hc.2.2 j (by omega)
theorem pfx_self (x : I32) (n : Nat) (hn : n ≤ 64) : pfx ((MsgPure.hex x.1).take n) x = true := (pfx_take x x n hn).2 fun _ _ => rfl
theorem resOf_self {x : I32} {l : List I32} (h : resOf l = (x.1, 0)) : l = [x] := by
  match l, h with
  | [], h => simp [resOf] at h
  | [y], h =>
    simp only [resOf, Prod.mk.injEq, and_true] at h
    rw [Subtype.ext h]
  | _ :: _ :: _, h => simp [resOf] at h
theorem res_take (x : I32) (zs : List I32) (n : Nat) (h4 : 4 ≤ n) (h64 : n ≤ 64) : res ((MsgPure.hex x.1).take n) zs = resOf ((sset zs).filter (pfx ((MsgPure.hex x.1).take n))) := by
  have h1 := hex_len x
  unfold res
  rw [if_neg (by rw [List.length_take, h1]; omega), if_neg (by rw [List.length_take, h1]; omega), if_pos fun c hc => MsgPure.hex_isD x.1 c (List.mem_of_mem_take hc)]
theorem res_yes {x : I32} {zs : List I32} (hx : x ∈ zs) (n : Nat) (h4 : 4 ≤ n) (h64 : n ≤ 64) : res ((MsgPure.hex x.1).take n) zs = (x.1, 0) ↔ sn x (sset zs) ≤ n := by
  rw [res_take x zs n h4 h64, sn_le]
  constructor
  · intro h
    have hl := resOf_self h
    refine ⟨h4, fun z hz hne => ?_⟩
    rcases Nat.lt_or_ge (cpl x z) n with h2 | h2
    · exact h2
    · have : z ∈ (sset zs).filter (pfx ((MsgPure.hex x.1).take n)) := List.mem_filter.2 ⟨hz, (pfx_cpl hne n h64).2 h2⟩
      rw [hl] at this
      exact absurd (List.mem_singleton.1 this) hne
  · rintro ⟨_, h⟩
    have e := resOf_same (a := (sset zs).filter (pfx ((MsgPure.hex x.1).take n))) (b := [x]) ((asc_nodup (sset_asc zs)).sublist List.filter_sublist) (by simp) fun z => by
      rw [List.mem_filter, List.mem_singleton]
      constructor
      · rintro ⟨h1, h2⟩
        apply Classical.byContradiction
        intro hne
        have := (pfx_cpl hne n h64).1 h2
        have := h z h1 hne
        omega
      · intro e
        subst e
        exact ⟨(mem_sset _ _).2 hx, pfx_self _ n h64⟩
    rw [e]
    rfl
theorem res_no {x : I32} {zs : List I32} (hx : x ∉ zs) (n : Nat) (h4 : 4 ≤ n) (h64 : n ≤ 64) : res ((MsgPure.hex x.1).take n) zs ≠ (x.1, 0) := by
  rw [res_take x zs n h4 h64]
  intro h
  have hl := resOf_self h
  have : x ∈ (sset zs).filter (pfx ((MsgPure.hex x.1).take n)) := by rw [hl]; exact List.mem_cons_self ..
  exact hx ((mem_sset _ _).1 (List.mem_filter.1 this).1)
/-- what Shorten answers -/
def shrt (x : I32) (zs : List I32) : List UInt8 × Int := if x ∈ zs then ((MsgPure.hex x.1).take (sn x (sset zs)), 0) else ([], 8)
def shrtv (r : List UInt8 × Int) : Value := .tuple #[.string ⟨r.1.toArray⟩, .int .i64 r.2]
theorem shrt_first {x : I32} {zs : List I32} {n : Nat} (h4 : 4 ≤ n) (h64 : n ≤ 64) (h : res ((MsgPure.hex x.1).take n) zs = (x.1, 0)) (hpre : ∀ j, 4 ≤ j → j < n → res ((MsgPure.hex x.1).take j) zs ≠ (x.1, 0)) : shrt x zs = ((MsgPure.hex x.1).take n, 0) := by
  by_cases hx : x ∈ zs
  · have h1 := (res_yes hx n h4 h64).1 h
    rcases Nat.lt_or_eq_of_le h1 with h2 | h2
    · exact absurd ((res_yes hx _ (sn_ge _ _) (sn_64 _ _)).2 (Nat.le_refl _)) (hpre _ (sn_ge _ _) h2)
    · unfold shrt
      rw [if_pos hx, h2]
  · exact absurd h (res_no hx n h4 h64)
theorem shrt_none {x : I32} {zs : List I32} (hpre : ∀ j, 4 ≤ j → j < 65 → res ((MsgPure.hex x.1).take j) zs ≠ (x.1, 0)) : shrt x zs = ([], 8) := by
  unfold shrt
  rw [if_neg fun hx => hpre _ (sn_ge _ _) (Nat.lt_succ_of_le (sn_64 _ _)) ((res_yes hx _ (sn_ge x (sset zs)) (sn_64 _ _)).2 (Nat.le_refl _))]
theorem shrt_res {x : I32} {zs : List I32} (hx : x ∈ zs) : res (shrt x zs).1 zs = (x.1, 0) := by
  unfold shrt
  rw [if_pos hx]
  exact (res_yes hx _ (sn_ge _ _) (sn_64 _ _)).2 (Nat.le_refl _)
end Go.Proofs.XK
