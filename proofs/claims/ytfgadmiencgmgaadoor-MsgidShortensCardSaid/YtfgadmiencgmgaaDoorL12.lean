/- the law MsgidShortens: for every identity and list it answers true; it leaves all that was there as it was -/
import Derived.Test.YtfgadmiencgmgaaDoorL11
import Derived.Test.YtfgadmiencgmgaaDoorSho
import Derived.Test.YtfgadmiencgmgaaDoorRSho
namespace Go.Proofs
open Go.RowKit Go.Shelf XK Go.Sort
set_option linter.unusedVariables false
set_option linter.unusedSimpArgs false
set_option maxRecDepth 100000 in
set_option maxHeartbeats 4000000 in
theorem Tryd.msgidShortens (x : I32) (zs : List I32) (a : Option Addr) (n cap : Nat) (hnz : n = zs.length) (hcap : n ≤ cap) (w : World) (hI : Ids w.heap.size w (.slice a n cap) zs) :
    Calls Tryd.prog 4 #[.agg (bv x.1).toArray, .slice a n cap] w fun e w' => e = .returned (.bool true) ∧ Go.RowKit.Below w.heap.size w w' := by
  have hlx := Lib.hid x.2
  obtain ⟨m, hm⟩ : ∃ m, (min (n : Int) 20).toNat = m := ⟨_, rfl⟩
  obtain ⟨hJ, hL⟩ := Ids.cut 20 hnz hI hm
  have s0 : (0 : Int) ≤ min (n : Int) 20 := by omega
  have s1 : min (n : Int) 20 ≤ cap := by omega
  have s2 : min (n : Int) 20 ≤ n := by omega
  generalize zs.take 20 = ys at hJ hL
  have hK := Lib.hid hJ
  obtain ⟨S, c, hsc⟩ : ∃ S c, shrt x ys = (S, c) := ⟨_, _, rfl⟩
  have hSl : S.length ≤ 64 := by
    have h1 : (shrt x ys).1.length ≤ 64 := by
      unfold shrt
      split
      · rw [List.length_take, hex_len]; omega
      · simp
    rwa [hsc] at h1
  obtain ⟨T, hT⟩ : ∃ T : ByteArray, (⟨S.toArray⟩ : ByteArray) = T := ⟨_, rfl⟩
  have hTl : T.data.toList = S := by rw [← hT]
  have hTs : T.size ≤ 64 := by
    have : T.size = S.length := by rw [← hTl, Array.length_toList]; rfl
    omega
  have hc1 := fun sv W h => Tryd.shorten x ys (by omega) sv W h
  have hc2 := fun sv W h => Tryd.rShorten x ys (by omega) sv W h
  rw [hsc] at hc1 hc2
  simp only [shrtv, hT] at hc1 hc2
  have hc3 := fun sv W h => Tryd.resolve T (by omega) ys (by omega) sv W h
  rw [hTl] at hc3
  obtain ⟨l, g, hlg⟩ : ∃ l g, res S ys = (l, g) := ⟨_, _, rfl⟩
  have hl : Hid (l.length = 32) := Lib.hid (by have := res_length S ys; rwa [hlg] at this)
  rw [hlg] at hc3
  simp only [resv] at hc3
  have hcase : (c = 0 ∧ g = 0 ∧ l = x.1) ∨ c = 8 := by
    by_cases hx : x ∈ ys
    · have h1 := shrt_res hx
      have h2 : c = 0 := by
        have : (shrt x ys).2 = 0 := by unfold shrt; rw [if_pos hx]
        rwa [hsc] at this
      rw [hsc] at h1
      rw [hlg] at h1
      simp only [Prod.mk.injEq] at h1
      exact .inl ⟨h2, h1.2, h1.1⟩
    · have : (shrt x ys).2 = 8 := by unfold shrt; rw [if_neg hx]
      rw [hsc] at this
      exact .inr this
  have hd1 := Lib.hid hc1
  have hd2 := Lib.hid hc2
  have hd3 := Lib.hid hc3
  have hHc := Lib.hid hcase
  have c0 := Tryd.known
  clear hI hJ hnz hc1 hc2 hc3 hsc hT hTl hlg hcase hSl
  go_enter Tryd.func4, Tryd.ntmps4
  go_wp2_with (first | (refine x_bx rfl _ rfl _ rfl ?_) | (refine x_ld Tryd.arrId rfl _ rfl w.heap.size 0 rfl x.1 hlx.out (one_new w x _) ?_))
  have hB0 : Go.RowKit.Below w.heap.size w (w.alloc (.cells (bv x.1).toArray 24)) := (Go.RowKit.Below.refl _ w).alloc (Nat.le_refl _) _
  have hX0 := one_new w x 24
  have hs0 : w.heap.size < (w.alloc (.cells (bv x.1).toArray 24)).heap.size := by simp
  have hI3 := (hK.out.below hB0).mono (Nat.le_of_lt hs0)
  generalize w.alloc (.cells (bv x.1).toArray 24) = V at hB0 hX0 hs0 hI3 ⊢
  generalize hX : w.heap.size = X at hB0 hX0 hs0 ⊢
  have hHX := Lib.hid hX
  clear hX
  have hBx := Lib.hid hB0
  have hXx := Lib.hid hX0
  have hsx := Lib.hid hs0
  have hIx := Lib.hid hI3
  clear hB0 hX0 hs0 hI3 hK
  refine (hd1.out _ V hIx.out).mono ?_
  rintro e W1 ⟨rfl, hb1⟩
  have hV1 := Lib.hid hb1
  clear hb1
  go_wp2_with fail
  refine wp_region_held (S := fun w' => Go.RowKit.Below V.heap.size V w') (by kernel_rfl) ?_
  have hS : Go.RowKit.Below V.heap.size V { W1 with drawn := W1.drawn + 1 } := hV1.out.drew
  refine h_val (i := 0) rfl (by kernel_rfl) (by kernel_rfl) (by kernel_rfl) (fun _ _ _ h => h) rfl (fun W hW => run_ld Tryd.arrId _ rfl X 0 rfl x.1 hlx.out (range_below hW hsx.out hXx.out)) hS ?_
  try simp only [Act.put, List.getElem_toArray, List.getElem_cons_zero, List.getElem_cons_succ, List.setIfInBounds_toArray, List.set_cons_zero, List.set_cons_succ]
  refine h_val (i := 1) (v := .slice a m cap) rfl (by kernel_rfl) (by kernel_rfl) (by kernel_rfl) (fun _ _ _ h => h) rfl (fun _ _ => rfl) hS ?_
  try simp only [Act.put, List.getElem_toArray, List.getElem_cons_zero, List.getElem_cons_succ, List.setIfInBounds_toArray, List.set_cons_zero, List.set_cons_succ]
  refine wpAnyH_ready (rs := [2]) (by kernel_rfl) (by simp) ?_
  refine AllReadyH.cons rfl (fun K hK => ?_) AllReadyH.nil
  go_simp
  refine (Tryd.to ys (by omega) _ _ ((hIx.out.below hS).mono hS.size)).mono ?_
  rintro e W2 ⟨v2, rfl, hO, hb⟩
  replace hS := hS.trans (hb.mono hS.size)
  refine hK.out _ _ hS (fun _ => ?_)
  clear hK K
  try simp only [Act.put, List.getElem_toArray, List.getElem_cons_zero, List.getElem_cons_succ, List.setIfInBounds_toArray, List.set_cons_zero, List.set_cons_succ]
  have hIv := ids_own hO
  clear hO hb
  refine wpAnyH_ready (rs := [3]) (by kernel_rfl) (by simp) ?_
  refine AllReadyH.cons rfl (fun K hK => ?_) AllReadyH.nil
  go_simp
  refine (hd2.out _ _ hIv).mono ?_
  rintro e W3 ⟨rfl, hb⟩
  replace hS := hS.trans (hb.mono hS.size)
  refine hK.out _ _ hS (fun _ => ?_)
  clear hK K hIv hb
  try simp only [Act.put, List.getElem_toArray, List.getElem_cons_zero, List.getElem_cons_succ, List.setIfInBounds_toArray, List.set_cons_zero, List.set_cons_succ]
  refine h_val (i := 4) (v := .tuple #[.string T, .int .i64 c]) rfl (by kernel_rfl) (by kernel_rfl) (by kernel_rfl) (fun _ _ _ h => h) rfl (fun _ _ => rfl) hS ?_
  try simp only [Act.put, List.getElem_toArray, List.getElem_cons_zero, List.getElem_cons_succ, List.setIfInBounds_toArray, List.set_cons_zero, List.set_cons_succ]
  refine h_val (i := 5) (v := .string T) rfl (by kernel_rfl) (by kernel_rfl) (by kernel_rfl) (fun _ _ _ h => h) rfl (fun _ _ => rfl) hS ?_
  try simp only [Act.put, List.getElem_toArray, List.getElem_cons_zero, List.getElem_cons_succ, List.setIfInBounds_toArray, List.set_cons_zero, List.set_cons_succ]
  refine h_val (i := 6) (v := .int .i64 c) rfl (by kernel_rfl) (by kernel_rfl) (by kernel_rfl) (fun _ _ _ h => h) rfl (fun _ _ => rfl) hS ?_
  try simp only [Act.put, List.getElem_toArray, List.getElem_cons_zero, List.getElem_cons_succ, List.setIfInBounds_toArray, List.set_cons_zero, List.set_cons_succ]
  refine h_val (i := 7) (v := .string T) rfl (by kernel_rfl) (by kernel_rfl) (by kernel_rfl) (fun _ _ _ h => h) rfl (fun _ _ => rfl) hS ?_
  try simp only [Act.put, List.getElem_toArray, List.getElem_cons_zero, List.getElem_cons_succ, List.setIfInBounds_toArray, List.set_cons_zero, List.set_cons_succ]
  refine h_val (i := 8) (v := .int .i64 c) rfl (by kernel_rfl) (by kernel_rfl) (by kernel_rfl) (fun _ _ _ h => h) rfl (fun _ _ => rfl) hS ?_
  try simp only [Act.put, List.getElem_toArray, List.getElem_cons_zero, List.getElem_cons_succ, List.setIfInBounds_toArray, List.set_cons_zero, List.set_cons_succ]
  refine wpAnyH_done (by kernel_rfl) ?_ _
  have hV3 := Lib.hid hS
  clear hS hV1
  go_wp2_with fail
  refine (c0 _).mono ?_
  rintro e W4 ⟨rfl, hb4⟩
  have hV4 := Lib.hid (hV3.out.trans (hb4.mono hV3.out.size))
  clear hb4 hV3
  go_wp2_with fail
  refine (hd3.out _ _ ((hIx.out.below hV4.out).mono hV4.out.size)).mono ?_
  rintro e W5 ⟨rfl, hb5⟩
  have hV5 := Lib.hid (hV4.out.trans (hb5.mono hV4.out.size))
  have hX5 := Lib.hid (range_below hV5.out hsx.out hXx.out)
  have hX6 := Lib.hid (range_below ((Go.RowKit.Below.refl W5.heap.size W5).alloc (Nat.le_refl _) (.cells (bv l).toArray 24)) (by have := hsx.out; have := hV5.out.size; omega) hX5.out)
  have hL6 : Hid ((W5.alloc (.cells (bv l).toArray 24)).rangeAt W5.heap.size 0 (bv l)) := Lib.hid (row_range (Go.heap_alloc_new W5 _))
  have hV6 := Lib.hid (hV5.out.alloc hV5.out.size (.cells (bv l).toArray 24))
  clear hb5 hV4 hV5 hX5
  rcases hHc.out with ⟨rfl, rfl, rfl⟩ | rfl
  · go_wp2_with (first
      | (refine x_al Tryd.arrId rfl rfl ?_)
      | (refine x_stn Tryd.arrId rfl _ _ rfl rfl x.1 rfl hlx.out _ _ rfl ?_)
      | (refine x_ld Tryd.arrId rfl _ rfl W5.heap.size 0 rfl x.1 hlx.out hL6.out ?_)
      | (refine x_ld Tryd.arrId rfl _ rfl X 0 rfl x.1 hlx.out hX6.out ?_)
      | (refine x_eqt Tryd.arrId rfl _ _ _ rfl x.1 x.1 rfl rfl hlx.out hlx.out true (by simp) ?_))
    go_ret
    exact ⟨rfl, by rw [hHX.out]; exact hBx.out.trans (hV6.out.mono (Nat.le_of_lt hsx.out))⟩
  · go_wp2_with (first
      | (refine x_al Tryd.arrId rfl rfl ?_)
      | (refine x_stn Tryd.arrId rfl _ _ rfl rfl l rfl hl.out _ _ rfl ?_))
    go_ret
    exact ⟨rfl, by rw [hHX.out]; exact hBx.out.trans (hV6.out.mono (Nat.le_of_lt hsx.out))⟩
end Go.Proofs
