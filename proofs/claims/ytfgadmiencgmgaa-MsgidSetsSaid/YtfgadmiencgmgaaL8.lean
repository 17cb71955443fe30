/- the law MsgidHas: for every list and identity it answers true; it leaves all that was there as it was -/
import Derived.Test.YtfgadmiencgmgaaGB
import Derived.Test.YtfgadmiencgmgaaKnown
namespace Go.Proofs
open Go.RowKit Go.Shelf XK Go.Sort
set_option linter.unusedVariables false
set_option linter.unusedSimpArgs false
namespace XK
/-- the worlds behind V in which an array lies where it lay -/
theorem class1 {V : World} {A : Nat} {a : List UInt8} (hA : A < V.heap.size) (h1 : V.rangeAt A 0 (bv a)) :
    ∃ C : World → Prop, C V ∧ (∀ w, C w → C { w with drawn := w.drawn + 1 }) ∧ (∀ w, C w → Go.RowKit.Below V.heap.size V w) ∧ (∀ w w', C w → Go.RowKit.Below w.heap.size w w' → C w') ∧ (∀ w, C w → w.rangeAt A 0 (bv a)) :=
  ⟨fun w => Go.RowKit.Below V.heap.size V w, Go.RowKit.Below.refl _ _, fun w h => h.drew, fun w h => h, fun w w' h hb => h.trans (hb.mono h.size), fun w h => range_below h hA h1⟩
theorem Ids.take {n₀ : Nat} {W : World} {b off cap : Nat} {zs : List I32} (hb : b < n₀) (hc : ∀ j (h : j < zs.length), W.rangeAt b (off + j * 32) (bv zs[j].1)) (k : Nat) : Ids n₀ W (.slice (some ⟨b, off, none⟩) (zs.take k).length cap) (zs.take k) :=
  .inr ⟨b, off, cap, rfl, hb, fun j hj => by
    have hj' : j < zs.length := by rw [List.length_take] at hj; omega
    have := hc j hj'
    rwa [List.getElem_take]⟩
theorem ids_own {W : World} {base : Nat} {T : TypeId} {v : Value} {zs : List I32} (h : W.ownsRow base T 32 v zs.length (flat zs)) : Ids W.heap.size W v zs := by
  rcases h.2 with ⟨rfl, h0⟩ | ⟨g, cap, cur, rfl, _, hg, _, _, _, ht⟩
  · exact .inl ⟨⟨none, 0, rfl⟩, List.eq_nil_of_length_eq_zero h0⟩
  · refine .inr ⟨g, 0, cap, rfl, (Array.getElem?_eq_some_iff.1 hg).1, fun j hj i v hv => ?_⟩
    have h1 := flat_get zs j hj i v hv
    have h2 : j * 32 + i < zs.length * 32 := by
      have := (List.getElem?_eq_some_iff.1 h1).1
      rwa [flat_length] at this
    rw [← ht, List.getElem?_take, if_pos h2] at h1
    rw [Go.cell_of_row _ _ _ _ _ _ hg, Nat.zero_add, ← Array.getElem?_toList]
    exact h1
theorem mem_compact (d : Array I32) (x : I32) : ∀ m, m ≤ d.size → (x ∈ Lib.compactUpTo d m ↔ ∃ j, j < m ∧ d[j]! = x)
  | 0, _ => by simp [Lib.compactUpTo]
  | m + 1, h => by
    have ih := mem_compact d x m (by omega)
    rw [Lib.compactUpTo_succ, List.mem_append, ih]
    by_cases hk : Lib.keeps d m = true
    · rw [if_pos hk]
      simp only [List.mem_singleton]
      constructor
      · rintro (⟨j, hj, e⟩ | e)
        · exact ⟨j, by omega, e⟩
        · exact ⟨m, by omega, e.symm⟩
      · rintro ⟨j, hj, e⟩
        by_cases hjm : j = m
        · subst hjm; exact .inr e.symm
        · exact .inl ⟨j, by omega, e⟩
    · rw [if_neg hk]
      simp only [List.not_mem_nil, or_false]
      constructor
      · rintro ⟨j, hj, e⟩
        exact ⟨j, by omega, e⟩
      · rintro ⟨j, hj, e⟩
        by_cases hjm : j = m
        · subst hjm
          have h2 : ¬ (j = 0 ∨ d[j]! ≠ d[j - 1]!) := by simpa [Lib.keeps] using hk
          have h3 : j ≠ 0 := fun q => h2 (.inl q)
          have h4 : d[j]! = d[j - 1]! := Decidable.byContradiction fun q => h2 (.inr q)
          exact ⟨j - 1, by omega, by rw [← h4]; exact e⟩
        · exact ⟨j, by omega, e⟩
theorem mem_sset (zs : List I32) (x : I32) : x ∈ sset zs ↔ x ∈ zs := by
  rw [sset, mem_compact _ _ _ (Nat.le_refl _)]
  have h1 : x ∈ srt zs ↔ x ∈ zs := by simp [srt]
  rw [← h1, List.mem_iff_getElem]
  constructor
  · rintro ⟨j, hj, e⟩
    have hj' : j < (srt zs).length := by simpa using hj
    rw [getElem!_pos (srt zs).toArray j (by simpa using hj)] at e
    exact ⟨j, hj', by simpa using e⟩
  · rintro ⟨j, hj, e⟩
    refine ⟨j, by simpa using hj, ?_⟩
    rw [getElem!_pos (srt zs).toArray j (by simpa using hj)]
    simpa using e
theorem sset_length (zs : List I32) : (sset zs).length ≤ zs.length := by
  rw [sset, Lib.compactUpTo, List.length_map, List.size_toArray]
  exact Nat.le_trans (List.length_filter_le _ _) (by simp [srt])
theorem memb_sset (x : I32) (zs : List I32) : memb x (sset zs) = memb x zs := by
  unfold memb
  simp only [mem_sset]
end XK
set_option maxRecDepth 100000 in
set_option maxHeartbeats 1000000 in
theorem Try.msgidHas (zs : List I32) (a : Option Addr) (n cap : Nat) (hnz : n = zs.length) (hcap : n ≤ cap) (hn : n ≤ 9223372036854775807) (w : World) (hI : Ids w.heap.size w (.slice a n cap) zs) (x : I32) :
    Calls Try.prog 8 #[.slice a n cap, .agg (bv x.1).toArray] w fun e w' => e = .returned (.bool true) ∧ Go.RowKit.Below w.heap.size w w' := by
  obtain ⟨m, hm⟩ : ∃ m, (min (n : Int) 40).toNat = m := ⟨_, rfl⟩
  have hml : (zs.take 40).length = m := by rw [List.length_take, ← hnz, ← hm]; omega
  have hI1 : Ids w.heap.size w (.slice a m cap) (zs.take 40) := by
    rcases hI with ⟨⟨a', cap', he⟩, rfl⟩ | ⟨b, off, cap', he, hb, hc⟩
    · cases he
      exact .inl ⟨⟨a, cap, by rw [← hml]; rfl⟩, rfl⟩
    · cases he
      rw [← hml]
      exact Ids.take hb hc 40
  have hm40 : (zs.take 40).length ≤ 40 := by rw [List.length_take]; omega
  have m0 : (0 : Int) ≤ min (n : Int) 40 := by omega
  have m1 : min (n : Int) 40 ≤ cap := by omega
  have m2 : min (n : Int) 40 ≤ n := by omega
  obtain ⟨ys, hys⟩ : ∃ ys, zs.take 40 = ys := ⟨_, rfl⟩
  rw [hys] at hI1 hm40 hml
  have hI2 := Lib.hid hI1
  have hlx := Lib.hid x.2
  clear hI hI1 hys hml hnz
  go_enter Try.func8, Try.ntmps8
  go_wp2_with (refine x_bx rfl _ rfl _ rfl ?_)
  have hX0 : (w.alloc (.cells (bv x.1).toArray 23)).rangeAt w.heap.size 0 (bv x.1) := fun j v hj => by rw [Go.cell_of_row _ _ _ _ _ _ (Go.heap_alloc_new w _)]; simpa using hj
  have hs0 : w.heap.size < (w.alloc (.cells (bv x.1).toArray 23)).heap.size := by simp
  have hW0 : Go.RowKit.Below w.heap.size w (w.alloc (.cells (bv x.1).toArray 23)) := (Go.RowKit.Below.refl _ w).alloc (Nat.le_refl _) _
  have hI3 := Lib.hid ((hI2.out.below hW0).mono (Nat.le_of_lt hs0))
  generalize w.alloc (.cells (bv x.1).toArray 23) = V at hX0 hs0 hW0 hI3 ⊢
  obtain ⟨C, hC0, hCd, hCV, hCb, hCx⟩ := XK.class1 hs0 hX0
  have hC1 := hCd _ hC0
  have hids : ∀ W, C W → Ids W.heap.size W (.slice a m cap) ys := fun W hW => (hI3.out.below (hCV W hW)).mono (hCV W hW).size
  have hs1 := Lib.hid hs0
  generalize hX : w.heap.size = X at hX0 hCx hs1 ⊢
  rw [hX] at hW0
  have hHX := Lib.hid hX
  clear hX hs0 hX0 hC0 hI3 hI2
  refine wp_region_held (S := C) (by kernel_rfl) ?_
  have hS := hC1
  refine h_val (i := 0) (v := .slice a m cap) rfl (by kernel_rfl) (by kernel_rfl) (by kernel_rfl) (fun _ _ _ h => h) rfl (fun _ _ => rfl) hS ?_
  try simp only [Act.put, List.getElem_toArray, List.getElem_cons_zero, List.getElem_cons_succ, List.setIfInBounds_toArray, List.set_cons_zero, List.set_cons_succ]
  refine h_val (i := 2) rfl (by kernel_rfl) (by kernel_rfl) (by kernel_rfl) (fun _ _ _ h => h) rfl (fun W hW => run_ld Try.arrId _ rfl X 0 rfl x.1 hlx.out (hCx W hW)) hS ?_
  try simp only [Act.put, List.getElem_toArray, List.getElem_cons_zero, List.getElem_cons_succ, List.setIfInBounds_toArray, List.set_cons_zero, List.set_cons_succ]
  refine wpAnyH_ready (rs := [1]) (by kernel_rfl) (by simp) ?_
  refine AllReadyH.cons rfl (fun K hK => ?_) AllReadyH.nil
  go_simp
  refine (Try.to ys hm40 _ _ (hids _ hS)).mono ?_
  rintro e W1 ⟨v1, rfl, hO, hb⟩
  replace hS := hCb _ _ hS hb
  refine hK.out _ _ hS (fun _ => ?_)
  clear hK K
  try simp only [Act.put, List.getElem_toArray, List.getElem_cons_zero, List.getElem_cons_succ, List.setIfInBounds_toArray, List.set_cons_zero, List.set_cons_succ]
  have hIv := ids_own hO
  clear hO hb
  refine wpAnyH_ready (rs := [3]) (by kernel_rfl) (by simp) ?_
  refine AllReadyH.cons rfl (fun K hK => ?_) AllReadyH.nil
  go_simp
  refine (Try.rHas ys (by omega) _ _ hIv x).mono ?_
  rintro e W2 ⟨rfl, hb⟩
  replace hS := hCb _ _ hS hb
  refine hK.out _ _ hS (fun _ => ?_)
  clear hK K
  try simp only [Act.put, List.getElem_toArray, List.getElem_cons_zero, List.getElem_cons_succ, List.setIfInBounds_toArray, List.set_cons_zero, List.set_cons_succ]
  clear hIv hb
  refine h_val (i := 4) (v := .bool (memb x ys)) rfl (by kernel_rfl) (by kernel_rfl) (by kernel_rfl) (fun _ _ _ h => h) rfl (fun _ _ => rfl) hS ?_
  try simp only [Act.put, List.getElem_toArray, List.getElem_cons_zero, List.getElem_cons_succ, List.setIfInBounds_toArray, List.set_cons_zero, List.set_cons_succ]
  refine wpAnyH_done (by kernel_rfl) ?_ _
  have c0 := Try.known
  generalize hr : memb x ys = r
  have hHr := Lib.hid hr
  clear hr
  go_wp2
  cases r
  · refine wp_region_held (S := C) (by kernel_rfl) ?_
    replace hS := hCd _ hS
    refine wpAnyH_ready (rs := [0]) (by kernel_rfl) (by simp) ?_
    refine AllReadyH.cons rfl (fun K hK => ?_) AllReadyH.nil
    go_simp
    refine (c0 _).mono ?_
    rintro e W3 ⟨rfl, hb⟩
    replace hS := hCb _ _ hS hb
    refine hK.out _ _ hS (fun _ => ?_)
    clear hK K
    try simp only [Act.put, List.getElem_toArray, List.getElem_cons_zero, List.getElem_cons_succ, List.setIfInBounds_toArray, List.set_cons_zero, List.set_cons_succ]
    clear hb
    refine h_val (i := 1) (v := .bool true) rfl (by kernel_rfl) (by kernel_rfl) (by kernel_rfl) (fun _ _ _ h => h) rfl (fun _ _ => rfl) hS ?_
    try simp only [Act.put, List.getElem_toArray, List.getElem_cons_zero, List.getElem_cons_succ, List.setIfInBounds_toArray, List.set_cons_zero, List.set_cons_succ]
    refine h_val (i := 2) (v := .slice a m cap) rfl (by kernel_rfl) (by kernel_rfl) (by kernel_rfl) (fun _ _ _ h => h) rfl (fun _ _ => rfl) hS ?_
    try simp only [Act.put, List.getElem_toArray, List.getElem_cons_zero, List.getElem_cons_succ, List.setIfInBounds_toArray, List.set_cons_zero, List.set_cons_succ]
    refine h_val (i := 3) rfl (by kernel_rfl) (by kernel_rfl) (by kernel_rfl) (fun _ _ _ h => h) rfl (fun W hW => run_ld Try.arrId _ rfl X 0 rfl x.1 hlx.out (hCx W hW)) hS ?_
    try simp only [Act.put, List.getElem_toArray, List.getElem_cons_zero, List.getElem_cons_succ, List.setIfInBounds_toArray, List.set_cons_zero, List.set_cons_succ]
    refine h_val (i := 5) (v := .bool false) rfl (by kernel_rfl) (by kernel_rfl) (by kernel_rfl) (fun _ _ _ h => h) rfl (fun _ _ => rfl) hS ?_
    try simp only [Act.put, List.getElem_toArray, List.getElem_cons_zero, List.getElem_cons_succ, List.setIfInBounds_toArray, List.set_cons_zero, List.set_cons_succ]
    refine wpAnyH_ready (rs := [4]) (by kernel_rfl) (by simp) ?_
    refine AllReadyH.cons rfl (fun K hK => ?_) AllReadyH.nil
    go_simp
    refine (Try.has ys (by omega) _ _ (hids _ hS) x).mono ?_
    rintro e W3 ⟨rfl, hb⟩
    replace hS := hCb _ _ hS hb
    refine hK.out _ _ hS (fun _ => ?_)
    clear hK K
    try simp only [Act.put, List.getElem_toArray, List.getElem_cons_zero, List.getElem_cons_succ, List.setIfInBounds_toArray, List.set_cons_zero, List.set_cons_succ]
    rw [hHr.out]
    clear hb
    refine h_val (i := 6) (v := .bool true) rfl (by kernel_rfl) (by kernel_rfl) (by kernel_rfl) (fun _ _ _ h => h) rfl (fun _ _ => rfl) hS ?_
    try simp only [Act.put, List.getElem_toArray, List.getElem_cons_zero, List.getElem_cons_succ, List.setIfInBounds_toArray, List.set_cons_zero, List.set_cons_succ]
    refine h_val (i := 7) (v := .bool true) rfl (by kernel_rfl) (by kernel_rfl) (by kernel_rfl) (fun _ _ _ h => h) rfl (fun _ _ => rfl) hS ?_
    try simp only [Act.put, List.getElem_toArray, List.getElem_cons_zero, List.getElem_cons_succ, List.setIfInBounds_toArray, List.set_cons_zero, List.set_cons_succ]
    refine h_val (i := 8) (v := .bool true) rfl (by kernel_rfl) (by kernel_rfl) (by kernel_rfl) (fun _ _ _ h => h) rfl (fun _ _ => rfl) hS ?_
    try simp only [Act.put, List.getElem_toArray, List.getElem_cons_zero, List.getElem_cons_succ, List.setIfInBounds_toArray, List.set_cons_zero, List.set_cons_succ]
    refine h_val (i := 9) (v := .slice a m cap) rfl (by kernel_rfl) (by kernel_rfl) (by kernel_rfl) (fun _ _ _ h => h) rfl (fun _ _ => rfl) hS ?_
    try simp only [Act.put, List.getElem_toArray, List.getElem_cons_zero, List.getElem_cons_succ, List.setIfInBounds_toArray, List.set_cons_zero, List.set_cons_succ]
    refine h_val (i := 11) rfl (by kernel_rfl) (by kernel_rfl) (by kernel_rfl) (fun _ _ _ h => h) rfl (fun W hW => run_ld Try.arrId _ rfl X 0 rfl x.1 hlx.out (hCx W hW)) hS ?_
    try simp only [Act.put, List.getElem_toArray, List.getElem_cons_zero, List.getElem_cons_succ, List.setIfInBounds_toArray, List.set_cons_zero, List.set_cons_succ]
    refine h_val (i := 13) (v := .bool false) rfl (by kernel_rfl) (by kernel_rfl) (by kernel_rfl) (fun _ _ _ h => h) rfl (fun _ _ => rfl) hS ?_
    try simp only [Act.put, List.getElem_toArray, List.getElem_cons_zero, List.getElem_cons_succ, List.setIfInBounds_toArray, List.set_cons_zero, List.set_cons_succ]
    refine wpAnyH_ready (rs := [10]) (by kernel_rfl) (by simp) ?_
    refine AllReadyH.cons rfl (fun K hK => ?_) AllReadyH.nil
    go_simp
    refine (Try.set ys (by omega) _ _ (hids _ hS)).mono ?_
    rintro e W3 ⟨v2, rfl, hO, hb⟩
    replace hS := hCb _ _ hS hb
    refine hK.out _ _ hS (fun _ => ?_)
    clear hK K
    try simp only [Act.put, List.getElem_toArray, List.getElem_cons_zero, List.getElem_cons_succ, List.setIfInBounds_toArray, List.set_cons_zero, List.set_cons_succ]
    have hIv := hO.ids
    clear hO
    clear hb
    refine wpAnyH_ready (rs := [12]) (by kernel_rfl) (by simp) ?_
    refine AllReadyH.cons rfl (fun K hK => ?_) AllReadyH.nil
    go_simp
    refine (Try.has (sset ys) (by have := sset_length ys; omega) _ _ hIv x).mono ?_
    rintro e W3 ⟨rfl, hb⟩
    replace hS := hCb _ _ hS hb
    refine hK.out _ _ hS (fun _ => ?_)
    clear hK K
    try simp only [Act.put, List.getElem_toArray, List.getElem_cons_zero, List.getElem_cons_succ, List.setIfInBounds_toArray, List.set_cons_zero, List.set_cons_succ]
    rw [memb_sset, hHr.out]
    clear hIv
    clear hb
    refine h_val (i := 14) (v := .bool true) rfl (by kernel_rfl) (by kernel_rfl) (by kernel_rfl) (fun _ _ _ h => h) rfl (fun _ _ => rfl) hS ?_
    try simp only [Act.put, List.getElem_toArray, List.getElem_cons_zero, List.getElem_cons_succ, List.setIfInBounds_toArray, List.set_cons_zero, List.set_cons_succ]
    refine h_val (i := 15) (v := .bool true) rfl (by kernel_rfl) (by kernel_rfl) (by kernel_rfl) (fun _ _ _ h => h) rfl (fun _ _ => rfl) hS ?_
    try simp only [Act.put, List.getElem_toArray, List.getElem_cons_zero, List.getElem_cons_succ, List.setIfInBounds_toArray, List.set_cons_zero, List.set_cons_succ]
    refine h_val (i := 16) (v := .bool true) rfl (by kernel_rfl) (by kernel_rfl) (by kernel_rfl) (fun _ _ _ h => h) rfl (fun _ _ => rfl) hS ?_
    try simp only [Act.put, List.getElem_toArray, List.getElem_cons_zero, List.getElem_cons_succ, List.setIfInBounds_toArray, List.set_cons_zero, List.set_cons_succ]
    refine wpAnyH_done (by kernel_rfl) ?_ _
    go_wp2
    go_ret
    exact ⟨rfl, by rw [hHX.out]; exact hW0.trans ((hCV _ hS).mono (by have := hs1.out; omega))⟩
  · refine wp_region_held (S := C) (by kernel_rfl) ?_
    replace hS := hCd _ hS
    refine wpAnyH_ready (rs := [0]) (by kernel_rfl) (by simp) ?_
    refine AllReadyH.cons rfl (fun K hK => ?_) AllReadyH.nil
    go_simp
    refine (c0 _).mono ?_
    rintro e W3 ⟨rfl, hb⟩
    replace hS := hCb _ _ hS hb
    refine hK.out _ _ hS (fun _ => ?_)
    clear hK K
    try simp only [Act.put, List.getElem_toArray, List.getElem_cons_zero, List.getElem_cons_succ, List.setIfInBounds_toArray, List.set_cons_zero, List.set_cons_succ]
    clear hb
    refine h_val (i := 1) (v := .bool true) rfl (by kernel_rfl) (by kernel_rfl) (by kernel_rfl) (fun _ _ _ h => h) rfl (fun _ _ => rfl) hS ?_
    try simp only [Act.put, List.getElem_toArray, List.getElem_cons_zero, List.getElem_cons_succ, List.setIfInBounds_toArray, List.set_cons_zero, List.set_cons_succ]
    refine h_val (i := 2) (v := .slice a m cap) rfl (by kernel_rfl) (by kernel_rfl) (by kernel_rfl) (fun _ _ _ h => h) rfl (fun _ _ => rfl) hS ?_
    try simp only [Act.put, List.getElem_toArray, List.getElem_cons_zero, List.getElem_cons_succ, List.setIfInBounds_toArray, List.set_cons_zero, List.set_cons_succ]
    refine h_val (i := 3) rfl (by kernel_rfl) (by kernel_rfl) (by kernel_rfl) (fun _ _ _ h => h) rfl (fun W hW => run_ld Try.arrId _ rfl X 0 rfl x.1 hlx.out (hCx W hW)) hS ?_
    try simp only [Act.put, List.getElem_toArray, List.getElem_cons_zero, List.getElem_cons_succ, List.setIfInBounds_toArray, List.set_cons_zero, List.set_cons_succ]
    refine h_val (i := 5) (v := .bool true) rfl (by kernel_rfl) (by kernel_rfl) (by kernel_rfl) (fun _ _ _ h => h) rfl (fun _ _ => rfl) hS ?_
    try simp only [Act.put, List.getElem_toArray, List.getElem_cons_zero, List.getElem_cons_succ, List.setIfInBounds_toArray, List.set_cons_zero, List.set_cons_succ]
    refine wpAnyH_ready (rs := [4]) (by kernel_rfl) (by simp) ?_
    refine AllReadyH.cons rfl (fun K hK => ?_) AllReadyH.nil
    go_simp
    refine (Try.has ys (by omega) _ _ (hids _ hS) x).mono ?_
    rintro e W3 ⟨rfl, hb⟩
    replace hS := hCb _ _ hS hb
    refine hK.out _ _ hS (fun _ => ?_)
    clear hK K
    try simp only [Act.put, List.getElem_toArray, List.getElem_cons_zero, List.getElem_cons_succ, List.setIfInBounds_toArray, List.set_cons_zero, List.set_cons_succ]
    rw [hHr.out]
    clear hb
    refine h_val (i := 6) (v := .bool true) rfl (by kernel_rfl) (by kernel_rfl) (by kernel_rfl) (fun _ _ _ h => h) rfl (fun _ _ => rfl) hS ?_
    try simp only [Act.put, List.getElem_toArray, List.getElem_cons_zero, List.getElem_cons_succ, List.setIfInBounds_toArray, List.set_cons_zero, List.set_cons_succ]
    refine h_val (i := 7) (v := .bool true) rfl (by kernel_rfl) (by kernel_rfl) (by kernel_rfl) (fun _ _ _ h => h) rfl (fun _ _ => rfl) hS ?_
    try simp only [Act.put, List.getElem_toArray, List.getElem_cons_zero, List.getElem_cons_succ, List.setIfInBounds_toArray, List.set_cons_zero, List.set_cons_succ]
    refine h_val (i := 8) (v := .bool true) rfl (by kernel_rfl) (by kernel_rfl) (by kernel_rfl) (fun _ _ _ h => h) rfl (fun _ _ => rfl) hS ?_
    try simp only [Act.put, List.getElem_toArray, List.getElem_cons_zero, List.getElem_cons_succ, List.setIfInBounds_toArray, List.set_cons_zero, List.set_cons_succ]
    refine h_val (i := 9) (v := .slice a m cap) rfl (by kernel_rfl) (by kernel_rfl) (by kernel_rfl) (fun _ _ _ h => h) rfl (fun _ _ => rfl) hS ?_
    try simp only [Act.put, List.getElem_toArray, List.getElem_cons_zero, List.getElem_cons_succ, List.setIfInBounds_toArray, List.set_cons_zero, List.set_cons_succ]
    refine h_val (i := 11) rfl (by kernel_rfl) (by kernel_rfl) (by kernel_rfl) (fun _ _ _ h => h) rfl (fun W hW => run_ld Try.arrId _ rfl X 0 rfl x.1 hlx.out (hCx W hW)) hS ?_
    try simp only [Act.put, List.getElem_toArray, List.getElem_cons_zero, List.getElem_cons_succ, List.setIfInBounds_toArray, List.set_cons_zero, List.set_cons_succ]
    refine h_val (i := 13) (v := .bool true) rfl (by kernel_rfl) (by kernel_rfl) (by kernel_rfl) (fun _ _ _ h => h) rfl (fun _ _ => rfl) hS ?_
    try simp only [Act.put, List.getElem_toArray, List.getElem_cons_zero, List.getElem_cons_succ, List.setIfInBounds_toArray, List.set_cons_zero, List.set_cons_succ]
    refine wpAnyH_ready (rs := [10]) (by kernel_rfl) (by simp) ?_
    refine AllReadyH.cons rfl (fun K hK => ?_) AllReadyH.nil
    go_simp
    refine (Try.set ys (by omega) _ _ (hids _ hS)).mono ?_
    rintro e W3 ⟨v2, rfl, hO, hb⟩
    replace hS := hCb _ _ hS hb
    refine hK.out _ _ hS (fun _ => ?_)
    clear hK K
    try simp only [Act.put, List.getElem_toArray, List.getElem_cons_zero, List.getElem_cons_succ, List.setIfInBounds_toArray, List.set_cons_zero, List.set_cons_succ]
    have hIv := hO.ids
    clear hO
    clear hb
    refine wpAnyH_ready (rs := [12]) (by kernel_rfl) (by simp) ?_
    refine AllReadyH.cons rfl (fun K hK => ?_) AllReadyH.nil
    go_simp
    refine (Try.has (sset ys) (by have := sset_length ys; omega) _ _ hIv x).mono ?_
    rintro e W3 ⟨rfl, hb⟩
    replace hS := hCb _ _ hS hb
    refine hK.out _ _ hS (fun _ => ?_)
    clear hK K
    try simp only [Act.put, List.getElem_toArray, List.getElem_cons_zero, List.getElem_cons_succ, List.setIfInBounds_toArray, List.set_cons_zero, List.set_cons_succ]
    rw [memb_sset, hHr.out]
    clear hIv
    clear hb
    refine h_val (i := 14) (v := .bool true) rfl (by kernel_rfl) (by kernel_rfl) (by kernel_rfl) (fun _ _ _ h => h) rfl (fun _ _ => rfl) hS ?_
    try simp only [Act.put, List.getElem_toArray, List.getElem_cons_zero, List.getElem_cons_succ, List.setIfInBounds_toArray, List.set_cons_zero, List.set_cons_succ]
    refine h_val (i := 15) (v := .bool true) rfl (by kernel_rfl) (by kernel_rfl) (by kernel_rfl) (fun _ _ _ h => h) rfl (fun _ _ => rfl) hS ?_
    try simp only [Act.put, List.getElem_toArray, List.getElem_cons_zero, List.getElem_cons_succ, List.setIfInBounds_toArray, List.set_cons_zero, List.set_cons_succ]
    refine h_val (i := 16) (v := .bool true) rfl (by kernel_rfl) (by kernel_rfl) (by kernel_rfl) (fun _ _ _ h => h) rfl (fun _ _ => rfl) hS ?_
    try simp only [Act.put, List.getElem_toArray, List.getElem_cons_zero, List.getElem_cons_succ, List.setIfInBounds_toArray, List.set_cons_zero, List.set_cons_succ]
    refine wpAnyH_done (by kernel_rfl) ?_ _
    go_wp2
    go_ret
    exact ⟨rfl, by rw [hHX.out]; exact hW0.trans ((hCV _ hS).mono (by have := hs1.out; omega))⟩
end Go.Proofs
