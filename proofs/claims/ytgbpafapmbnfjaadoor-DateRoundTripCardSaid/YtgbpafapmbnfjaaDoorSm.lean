/- the scan of date: name -/
import Derived.Test.YtgbpafapmbnfjaaDoorLo
namespace Go.Proofs
open Go.RowKit Go.Shelf
set_option linter.unusedVariables false
set_option linter.unusedSimpArgs false
namespace TK
def wrd (s : ByteArray) (n : Nat) : ByteArray := s.extract n (n + 3)
def snm (zs : List ByteArray) (s : ByteArray) (n : Nat) : Int := fx (fun a => leq (lo a) (lo (wrd s n))) zs 0
def sname (zs : List ByteArray) (s : ByteArray) (x : Nat × Nat) : (Nat × Nat) × Nat :=
  if x.2 = 0 then (if s.size < x.1 + 3 then ((s.size, 4), 0) else if snm zs s x.1 < 0 then ((x.1, 3), 0) else ((x.1 + 3, 0), (snm zs s x.1).toNat)) else (x, 0)
theorem fx_bd (q : ByteArray → Bool) : ∀ (zs : List ByteArray) (k : Nat), fx q zs k = -1 ∨ ((k : Int) ≤ fx q zs k ∧ fx q zs k < k + zs.length)
  | [], k => .inl rfl
  | a :: l, k => by
    unfold fx
    split
    · right; simp; omega
    · rcases fx_bd q l (k + 1) with h | h
      · exact .inl h
      · right; simp only [List.length_cons]; omega
end TK
open TK
set_option maxRecDepth 100000 in
set_option maxHeartbeats 2000000 in
theorem Tryd.dName (X : Nat) (s : ByteArray) (x : Nat × Nat) (zs : List ByteArray) (hz : zs.length ≤ 100) (hz3 : ∀ z ∈ zs, z.size ≤ 100) (B : Nat) (w : World) (h0 : Scn w X s x) (hB : B < w.heap.size) (hBX : B ≠ X) (hc : ∀ k (h : k < zs.length), w.cell? ⟨B, k, none⟩ = some (.string zs[k])) (hT : Tabs w) :
    Calls Tryd.prog 48 #[.pointer (some ⟨X, 0, none⟩), .slice (some ⟨B, 0, none⟩) zs.length zs.length] w fun z w' => z = .returned (.int .i64 ((sname zs s x).2 : Int)) ∧ w.grownBy w' (some X) ∧ Scn w' X s (sname zs s x).1 := by
  obtain ⟨n, e⟩ := x
  obtain ⟨c0, c1, c2, c3, c4, c5⟩ := h0.c
  have hh := Lib.hid h0
  have hns : n ≤ s.size := h0.2.1
  have hs64 : s.size ≤ 64 := h0.2.2
  dsimp only at c1 c2
  by_cases he : e = 0
  · subst he
    obtain ⟨C, q1, q2, q3, q4⟩ : ∃ C : World → Prop, C w ∧ (∀ W, C W → Below w.heap.size w W) ∧ (∀ W W', C W → Below W.heap.size W W' → C W') ∧ (∀ W, C W → C { W with drawn := W.drawn + 1 }) :=
      ⟨fun W => Below w.heap.size w W, (Below.refl _ _), fun W h => h, fun W W' h hb => h.trans (hb.mono h.size), fun W h => h.drew⟩
    have k0 : Hid (∀ W, C W → W.cell? ⟨X, 0, none⟩ = some (.string s)) := Lib.hid (fun W hW => (h0.below (q2 W hW)).c.1)
    have k1 : Hid (∀ W, C W → W.cell? ⟨X, 1, none⟩ = some (.int .i64 (n : Int))) := Lib.hid (fun W hW => (h0.below (q2 W hW)).c.2.1)
    have hC1 := Lib.hid q1
    have hCV := Lib.hid q2
    have hCb := Lib.hid q3
    have hCd := Lib.hid q4
    have hHT := Lib.hid hT
    have hHB := Lib.hid hB
    have hHc := Lib.hid hc
    have w1 : IntKind.i64.wrap ((s.size : Int) - n) = (s.size : Int) - n := IntWalk.i64_in _ (by omega)
    clear h0 hT hB hc q1 q2 q3 q4
    by_cases hn : s.size < n + 3
    · have hf : Hid (sname zs s (n, 0) = ((s.size, 4), 0)) := Lib.hid (by simp [sname, hn])
      have b1 : decide ((s.size : Int) - n < 3) = true := by simp; omega
      go_enter Tryd.func48, Tryd.ntmps48
      go_wp2_with fail
      refine q_region C (by kernel_rfl) (by kernel_rfl) (hCd.out _ hC1.out) ?_
      repeat (first
        | (with_reducible refine q_off ?_ ?_
           · rfl
           try simp only [Act.put, List.getElem_toArray, List.getElem_cons_zero, List.getElem_cons_succ, List.setIfInBounds_toArray, List.set_cons_zero, List.set_cons_succ])
        | (with_reducible refine q_lds2 Tryd.isAgg9 ?_ ?_ ⟨X, 0, none⟩ ?_ (.string s) k0.out ?_
           · rfl
           · rfl
           · rfl
           try simp only [Act.put, List.getElem_toArray, List.getElem_cons_zero, List.getElem_cons_succ, List.setIfInBounds_toArray, List.set_cons_zero, List.set_cons_succ])
        | (with_reducible refine q_lds2 Tryd.isAgg3 ?_ ?_ ⟨X, 1, none⟩ ?_ (.int .i64 (n : Int)) k1.out ?_
           · rfl
           · rfl
           · rfl
           try simp only [Act.put, List.getElem_toArray, List.getElem_cons_zero, List.getElem_cons_succ, List.setIfInBounds_toArray, List.set_cons_zero, List.set_cons_succ])
        | (with_reducible refine wpQuiet_step ?_
           intro K hK
           go_simp
           first
           | (refine hK _ ?_; clear hK K)
           | (apply Exists.intro
              refine ⟨fun W hW => ?_, hK _ ?_⟩
              first
              | exact rfl
              | exact ⟨rfl, rfl⟩
              clear hK K)))
      refine wpQuiet_nil ?_
      intro V1 hV1
      have hb := hCV.out V1 hV1
      have hs1 := hh.out.below hb
      have hc := Lib.hid (Tryd.dFail X s (n, 0) s.size 4 V1 hs1 (Nat.le_refl _))
      have hb1 := Lib.hid hb
      obtain ⟨b0, b1, b2, b3, b4, b5⟩ := hs1.c
      dsimp only at b1 b2
      clear hb hs1 c0 c1 c2 c3 c4 c5
      go_wp2_with (go_at_call 54; refine (hc.out).mono ?_; rintro e w' ⟨rfl, hg, hs⟩)
      go_ret
      exact ⟨by rw [hf.out]; rfl, Lib.grownBy_trans (up hb1.out _) hg, by rw [hf.out]; exact hs⟩
    · have b1 : decide ((s.size : Int) - n < 3) = false := by simp; omega
      go_enter Tryd.func48, Tryd.ntmps48
      go_wp2_with fail
      refine q_region C (by kernel_rfl) (by kernel_rfl) (hCd.out _ hC1.out) ?_
      repeat (first
        | (with_reducible refine q_off ?_ ?_
           · rfl
           try simp only [Act.put, List.getElem_toArray, List.getElem_cons_zero, List.getElem_cons_succ, List.setIfInBounds_toArray, List.set_cons_zero, List.set_cons_succ])
        | (with_reducible refine q_lds2 Tryd.isAgg9 ?_ ?_ ⟨X, 0, none⟩ ?_ (.string s) k0.out ?_
           · rfl
           · rfl
           · rfl
           try simp only [Act.put, List.getElem_toArray, List.getElem_cons_zero, List.getElem_cons_succ, List.setIfInBounds_toArray, List.set_cons_zero, List.set_cons_succ])
        | (with_reducible refine q_lds2 Tryd.isAgg3 ?_ ?_ ⟨X, 1, none⟩ ?_ (.int .i64 (n : Int)) k1.out ?_
           · rfl
           · rfl
           · rfl
           try simp only [Act.put, List.getElem_toArray, List.getElem_cons_zero, List.getElem_cons_succ, List.setIfInBounds_toArray, List.set_cons_zero, List.set_cons_succ])
        | (with_reducible refine wpQuiet_step ?_
           intro K hK
           go_simp
           first
           | (refine hK _ ?_; clear hK K)
           | (apply Exists.intro
              refine ⟨fun W hW => ?_, hK _ ?_⟩
              first
              | exact rfl
              | exact ⟨rfl, rfl⟩
              clear hK K)))
      refine wpQuiet_nil ?_
      intro V1 hV1
      go_wp2_with fail
      have hV1b := hCV.out V1 hV1
      have hs1 := hh.out.below hV1b
      have j0 : Hid (∀ W, Below V1.heap.size V1 W → W.cell? ⟨X, 0, none⟩ = some (.string s)) := Lib.hid (fun W hW => (hs1.below hW).c.1)
      have j1 : Hid (∀ W, Below V1.heap.size V1 W → W.cell? ⟨X, 1, none⟩ = some (.int .i64 (n : Int))) := Lib.hid (fun W hW => (hs1.below hW).c.2.1)
      have hHV1b := Lib.hid hV1b
      clear hV1b
      refine wp_region_held (S := fun w' => Below V1.heap.size V1 w') (by kernel_rfl) ?_
      have hS : Below V1.heap.size V1 { V1 with drawn := V1.drawn + 1 } := (Below.refl _ _).drew
      have i0 : (0 : Int) ≤ n := by omega
      have i1 : (n : Int) ≤ n + 3 := by omega
      have i2 : (n : Int) + 3 ≤ s.size := by omega
      have i3 : (n : Int) ≤ s.size := by omega
      have i4 : ((n : Int) + 3).toNat = n + 3 := by omega
      have w3 : IntKind.i64.wrap ((n : Int) + 3) = (n : Int) + 3 := IntWalk.i64_in _ (by omega)
      refine h_val (i := 0) (v := .pointer (some ⟨X, 0, none⟩)) rfl (by kernel_rfl) (by kernel_rfl) (by kernel_rfl) (fun _ _ _ h => h) rfl (fun _ _ => rfl) hS ?_
      try simp only [Act.put, List.getElem_toArray, List.getElem_cons_zero, List.getElem_cons_succ, List.setIfInBounds_toArray, List.set_cons_zero, List.set_cons_succ]
      refine h_val (i := 1) (v := ?_) rfl (by kernel_rfl) (by kernel_rfl) (by kernel_rfl) (fun _ _ _ h => h) rfl ?_ hS ?_
      rotate_left
      · intro W hW
        go_simp
        try exact rfl
      try simp only [Act.put, List.getElem_toArray, List.getElem_cons_zero, List.getElem_cons_succ, List.setIfInBounds_toArray, List.set_cons_zero, List.set_cons_succ]
      refine h_val (i := 2) (v := ?_) rfl (by kernel_rfl) (by kernel_rfl) (by kernel_rfl) (fun _ _ _ h => h) rfl ?_ hS ?_
      rotate_left
      · intro W hW
        go_simp
        try exact rfl
      try simp only [Act.put, List.getElem_toArray, List.getElem_cons_zero, List.getElem_cons_succ, List.setIfInBounds_toArray, List.set_cons_zero, List.set_cons_succ]
      refine h_val (i := 3) (v := .string s) rfl (by kernel_rfl) (by kernel_rfl) (by kernel_rfl) (fun _ _ _ h => h) rfl (fun W hW => h_ld Tryd.isAgg9 (.tmp 32) rfl ⟨X, 0, none⟩ rfl _ (j0.out W hW)) hS ?_
      try simp only [Act.put, List.getElem_toArray, List.getElem_cons_zero, List.getElem_cons_succ, List.setIfInBounds_toArray, List.set_cons_zero, List.set_cons_succ]
      refine h_val (i := 4) (v := .pointer (some ⟨X, 0, none⟩)) rfl (by kernel_rfl) (by kernel_rfl) (by kernel_rfl) (fun _ _ _ h => h) rfl (fun _ _ => rfl) hS ?_
      try simp only [Act.put, List.getElem_toArray, List.getElem_cons_zero, List.getElem_cons_succ, List.setIfInBounds_toArray, List.set_cons_zero, List.set_cons_succ]
      refine h_val (i := 5) (v := ?_) rfl (by kernel_rfl) (by kernel_rfl) (by kernel_rfl) (fun _ _ _ h => h) rfl ?_ hS ?_
      rotate_left
      · intro W hW
        go_simp
        try exact rfl
      try simp only [Act.put, List.getElem_toArray, List.getElem_cons_zero, List.getElem_cons_succ, List.setIfInBounds_toArray, List.set_cons_zero, List.set_cons_succ]
      refine h_val (i := 6) (v := ?_) rfl (by kernel_rfl) (by kernel_rfl) (by kernel_rfl) (fun _ _ _ h => h) rfl ?_ hS ?_
      rotate_left
      · intro W hW
        go_simp
        try exact rfl
      try simp only [Act.put, List.getElem_toArray, List.getElem_cons_zero, List.getElem_cons_succ, List.setIfInBounds_toArray, List.set_cons_zero, List.set_cons_succ]
      refine h_val (i := 7) (v := .int .i64 (n : Int)) rfl (by kernel_rfl) (by kernel_rfl) (by kernel_rfl) (fun _ _ _ h => h) rfl (fun W hW => h_ld Tryd.isAgg3 (.tmp 36) rfl ⟨X, 1, none⟩ rfl _ (j1.out W hW)) hS ?_
      try simp only [Act.put, List.getElem_toArray, List.getElem_cons_zero, List.getElem_cons_succ, List.setIfInBounds_toArray, List.set_cons_zero, List.set_cons_succ]
      refine h_val (i := 8) (v := .pointer (some ⟨X, 0, none⟩)) rfl (by kernel_rfl) (by kernel_rfl) (by kernel_rfl) (fun _ _ _ h => h) rfl (fun _ _ => rfl) hS ?_
      try simp only [Act.put, List.getElem_toArray, List.getElem_cons_zero, List.getElem_cons_succ, List.setIfInBounds_toArray, List.set_cons_zero, List.set_cons_succ]
      refine h_val (i := 9) (v := ?_) rfl (by kernel_rfl) (by kernel_rfl) (by kernel_rfl) (fun _ _ _ h => h) rfl ?_ hS ?_
      rotate_left
      · intro W hW
        go_simp
        try exact rfl
      try simp only [Act.put, List.getElem_toArray, List.getElem_cons_zero, List.getElem_cons_succ, List.setIfInBounds_toArray, List.set_cons_zero, List.set_cons_succ]
      refine h_val (i := 10) (v := ?_) rfl (by kernel_rfl) (by kernel_rfl) (by kernel_rfl) (fun _ _ _ h => h) rfl ?_ hS ?_
      rotate_left
      · intro W hW
        go_simp
        try exact rfl
      try simp only [Act.put, List.getElem_toArray, List.getElem_cons_zero, List.getElem_cons_succ, List.setIfInBounds_toArray, List.set_cons_zero, List.set_cons_succ]
      refine h_val (i := 11) (v := .int .i64 (n : Int)) rfl (by kernel_rfl) (by kernel_rfl) (by kernel_rfl) (fun _ _ _ h => h) rfl (fun W hW => h_ld Tryd.isAgg3 (.tmp 40) rfl ⟨X, 1, none⟩ rfl _ (j1.out W hW)) hS ?_
      try simp only [Act.put, List.getElem_toArray, List.getElem_cons_zero, List.getElem_cons_succ, List.setIfInBounds_toArray, List.set_cons_zero, List.set_cons_succ]
      refine h_val (i := 12) (v := ?_) rfl (by kernel_rfl) (by kernel_rfl) (by kernel_rfl) (fun _ _ _ h => h) rfl ?_ hS ?_
      rotate_left
      · intro W hW
        go_simp
        try exact rfl
      try simp only [Act.put, List.getElem_toArray, List.getElem_cons_zero, List.getElem_cons_succ, List.setIfInBounds_toArray, List.set_cons_zero, List.set_cons_succ]
      refine h_val (i := 13) (v := ?_) rfl (by kernel_rfl) (by kernel_rfl) (by kernel_rfl) (fun _ _ _ h => h) rfl ?_ hS ?_
      rotate_left
      · intro W hW
        go_simp
        try exact rfl
      try simp only [Act.put, List.getElem_toArray, List.getElem_cons_zero, List.getElem_cons_succ, List.setIfInBounds_toArray, List.set_cons_zero, List.set_cons_succ]
      refine wpAnyH_ready (rs := [14]) (by kernel_rfl) (by simp) ?_
      refine AllReadyH.cons rfl (fun K hK => ?_) AllReadyH.nil
      go_simp
      have hR2 : ((V1.alloc (.cells #[.string ⟨#[]⟩] 9)).drew).heap[V1.heap.size]? = some (.cells #[.string ⟨#[]⟩] 9 (0, 0)) := Go.heap_alloc_new V1 _
      have hS2 : Below V1.heap.size V1 ((V1.alloc (.cells #[.string ⟨#[]⟩] 9)).drew) := ((Below.refl _ _).alloc (Nat.le_refl _) _).drew
      have hz2 : V1.heap.size < ((V1.alloc (.cells #[.string ⟨#[]⟩] 9)).drew).heap.size := by show _ < (V1.alloc _).heap.size; simp
      generalize (V1.alloc (.cells #[.string ⟨#[]⟩] 9)).drew = V2 at hR2 hS2 hz2 ⊢
      refine hK.out _ _ hS2 (fun _ => ?_)
      clear hK K hS
      try simp only [Act.put, List.getElem_toArray, List.getElem_cons_zero, List.getElem_cons_succ, List.setIfInBounds_toArray, List.set_cons_zero, List.set_cons_succ]
      obtain ⟨G, hG⟩ : ∃ G, V1.heap.size = G := ⟨_, rfl⟩
      have d0 : V2.cell? ⟨G, 0, none⟩ = some (.string ⟨#[]⟩) := by rw [← hG]; simp [World.cell?, hR2]
      have d1 : V2.frozen? ⟨G, 0, none⟩ = false := by rw [← hG]; simp [World.frozen?, hR2]
      rw [hG] at hR2 hS2 hz2 ⊢
      have hHG := Lib.hid hG
      have hHS2 := Lib.hid hS2
      have hHR2 := Lib.hid hR2
      have hHz2 := Lib.hid hz2
      clear hG hS2 hR2 hz2
      generalize hwd : s.extract n (n + 3) = word
      have hHwd := Lib.hid hwd
      clear hwd
      refine wpAnyH_ready (rs := [15]) (by kernel_rfl) (by simp) ?_
      refine AllReadyH.cons rfl (fun K hK => ?_) AllReadyH.nil
      go_simp
      have hS3 : Below G V1 (V2.setCell ⟨G, 0, none⟩ (.string word)) := hHS2.out.setCell (Nat.le_refl _) _
      refine hK.out _ _ hS3 (fun _ => ?_)
      clear hK K
      try simp only [Act.put, List.getElem_toArray, List.getElem_cons_zero, List.getElem_cons_succ, List.setIfInBounds_toArray, List.set_cons_zero, List.set_cons_succ]
      have hb3 : (V2.setCell ⟨G, 0, none⟩ (.string word)).cell? ⟨G, 0, none⟩ = some (.string word) := by
        have h := hHR2.out
        simp [World.cell?, World.setCell, Array.getElem?_modify, h]
      generalize V2.setCell ⟨G, 0, none⟩ (.string word) = V3 at hS3 hb3 ⊢
      refine wpAnyH_done (by kernel_rfl) ?_ _
      have hB3 : Below w.heap.size w V3 := hHV1b.out.trans (hS3.mono (by have h1 := hHV1b.out.size; have h2 := hHG.out; omega))
      have hci := Tryd.indexFuncS (fun a => leq (lo a) (lo word)) ⟨G, 0, none⟩ zs (by omega) B V3 (by have := hB3.size; have := hHB.out; omega) (fun k h => cell_keep hB3 (hHc.out k h)) (fun z hz W hb => Tryd.nameK z word (by have := hz3 z hz; omega) (by rw [← hHwd.out, ByteArray.size_extract]; omega) G W (hHT.out.below (hB3.trans (hb.mono hB3.size))) (cell_keep hb hb3))
      have hfx : snm zs s n = fx (fun a => leq (lo a) (lo word)) zs 0 := by unfold snm wrd; rw [hHwd.out]
      have hbd := fx_bd (fun a => leq (lo a) (lo word)) zs 0
      rw [← hfx] at hci hbd
      have hHci := Lib.hid hci
      have hsn : Hid (sname zs s (n, 0) = if snm zs s n < 0 then ((n, 3), 0) else ((n + 3, 0), (snm zs s n).toNat)) := Lib.hid (by unfold sname; simp only; rw [if_pos trivial, if_neg hn])
      generalize snm zs s n = r at hbd hsn hHci
      have hHB3 := Lib.hid hB3
      clear hci hfx hB3 hS3 hb3 d0 d1 j0 j1
      by_cases hr : r < 0
      · have r1 : decide (r < 0) = true := decide_eq_true hr
        have hf : Hid (sname zs s (n, 0) = ((n, 3), 0)) := Lib.hid (by rw [hsn.out, if_pos hr])
        clear hbd
        go_wp2_with (first | (go_at_call 62; refine (hHci.out).mono ?_; rintro e V4 ⟨rfl, hb4⟩; have hHb4 := Lib.hid hb4; have hs4 := Lib.hid ((hh.out.below hHB3.out).below hb4); obtain ⟨b0, b1, b2, b3, b4, b5⟩ := hs4.out.c; dsimp only at b1 b2; have hcf := Lib.hid (Tryd.dFail X s (n, 0) n 3 V4 hs4.out hns); clear hb4 c0 c1 c2 c3 c4 c5) | (go_at_call 54; refine (hcf.out).mono ?_; rintro e V5 ⟨rfl, hg, hs⟩))
        go_ret
        exact ⟨by rw [hf.out]; rfl, Lib.grownBy_trans (up (hHB3.out.trans (hHb4.out.mono hHB3.out.size)) _) hg, by rw [hf.out]; exact hs⟩
      · have r1 : decide (r < 0) = false := decide_eq_false hr
        have hf : Hid (sname zs s (n, 0) = ((n + 3, 0), r.toNat)) := Lib.hid (by rw [hsn.out, if_neg hr])
        go_wp2_with (go_at_call 62; refine (hHci.out).mono ?_; rintro e V4 ⟨rfl, hb4⟩; have hHb4 := Lib.hid hb4; have hs4 := Lib.hid ((hh.out.below hHB3.out).below hb4); obtain ⟨b0, b1, b2, b3, b4, b5⟩ := hs4.out.c; dsimp only at b1 b2; clear hb4 c0 c1 c2 c3 c4 c5)
        have hS5 := hs4.out.put1 (n + 3) (by omega)
        go_ret
        exact ⟨by rw [hf.out]; show Ending.returned (Value.int .i64 r) = _; rw [show ((r.toNat : Nat) : Int) = r by omega], Lib.grownBy_trans (up (hHB3.out.trans (hHb4.out.mono hHB3.out.size)) _) (Lib.grownBy_setCell _ _ _ _), by rw [hf.out]; exact hS5⟩
  · have hf : Hid (sname zs s (n, e) = ((n, e), 0)) := Lib.hid (by simp [sname, he])
    clear h0
    go_enter Tryd.func48, Tryd.ntmps48
    go_wp2_with fail
    go_ret
    exact ⟨by rw [hf.out]; rfl, World.grownBy.refl _ _, by rw [hf.out]; exact hh.out⟩
end Go.Proofs
