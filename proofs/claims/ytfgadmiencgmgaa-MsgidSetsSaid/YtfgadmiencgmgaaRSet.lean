/- the reference's Set -/
import Derived.Test.YtfgadmiencgmgaaApp3
import Derived.Deep.CutBlock
import Derived.Deep.QuietTactic
import Derived.BigQuiet
import Derived.Deep.LoopGhost
namespace Go.Proofs
open Go.RowKit Go.Shelf XK Go.Sort
set_option linter.unusedVariables false
set_option linter.unusedSimpArgs false
set_option maxRecDepth 100000 in
set_option maxHeartbeats 2000000 in
theorem Try.rSet (zs : List I32) (hz : zs.length ≤ 500) (sv : Value) (w : World) (hI : Ids w.heap.size w sv zs) :
    Calls Try.prog 26 #[sv] w fun e w' => ∃ v, e = .returned v ∧ w'.ownsRow w.heap.size 30 32 v (sset zs).length (flat (sset zs)) ∧ Go.RowKit.Below w.heap.size w w' := by
  obtain ⟨a, n, c, rfl, hs⟩ := SL.of hI
  have hHs := Lib.hid hs
  have hn : n ≤ 500 := by have := hs.1; omega
  clear hI hs
  go_enter Try.func26, Try.ntmps26
  go_wp2
  go_loopg [3, 4] n (fun gh s3 s4 wr => ∃ (k : Nat) (out : List I32), k ≤ n ∧ n - k ≤ gh ∧ s4 = .int .i64 k ∧ out.length ≤ k ∧ Hid (Asc out ∧ ∀ z, z ∈ out ↔ z ∈ zs.take k) ∧ Hid (wr.ownsRow w.heap.size 30 32 s3 out.length (flat out)) ∧ Hid (Go.RowKit.Below w.heap.size w wr))
  case atStart => exact ⟨0, [], Nat.zero_le _, by omega, rfl, Nat.le_refl _, Lib.hid ⟨List.Pairwise.nil, by simp⟩, Lib.hid (World.ownsRow_nil _ _ _ _), Lib.hid (Go.RowKit.Below.refl _ _)⟩
  case round =>
    obtain ⟨k, out, hk, hgh, rfl, hlen, hA, hO, hB⟩ := hrel
    have i0 : (0 : Int) ≤ k := by omega
    have i2 : (k : Int).toNat = k := by omega
    by_cases hlt : k < n
    · have i1 : (k : Int) < n := by omega
      obtain ⟨b, off, rfl, hb, hc⟩ := hHs.out.2 (by omega)
      have kz : k < zs.length := by have := hHs.out.1; omega
      have hR0 := Lib.hid (hc k kz)
      have htk : Hid (zs.take (k + 1) = zs.take k ++ [zs[k]]) := Lib.hid (List.take_append_getElem kz).symm
      clear hc
      generalize zs[k] = x at hR0 htk
      have hlx := Lib.hid x.2
      have hR := Lib.hid (range_below hB.out hb hR0.out)
      obtain ⟨A, cc, rfl⟩ := XK.own_slice hO.out
      have hIo := Lib.hid (ids_own hO.out)
      obtain ⟨r, hr⟩ : ∃ r, memb x out = r := ⟨_, rfl⟩
      have hHr := Lib.hid hr
      clear hr kz
      go_wp2_with (refine x_ld Try.arrRId rfl _ rfl _ _ rfl x.1 hlx.out hR.out ?_)
      refine (Try.rHas out (by omega) _ _ hIo.out x).mono ?_
      rintro e W1 ⟨rfl, hb1⟩
      rw [hHr.out]
      have hO1 := Lib.hid (XK.own_below hO.out hb1)
      have hB1 := Lib.hid (hB.out.trans (hb1.mono hB.out.size))
      clear hO hB hR hIo hb1
      cases r
      · have hno : Hid (x ∉ out) := Lib.hid (by have := hHr.out; unfold memb at this; simpa using this)
        go_upto_block 2 with fail
        go_cut [5] from 6 to 50 (fun s5 wx => ∃ (t : Nat), t ≤ out.length ∧ s5 = .int .i64 t ∧ Hid (∀ j (h : j < out.length), j < t → cf out[j] x < 0) ∧ Hid (t = out.length ∨ ∃ h : t < out.length, 0 ≤ cf out[t] x) ∧ Hid (wx.ownsRow w.heap.size 30 32 (.slice A out.length cc) out.length (flat out)) ∧ Hid (Go.RowKit.Below w.heap.size w wx))
        case first =>
          go_wp2_with fail
          go_loopw [5] (fun s5 wr => ∃ (t : Nat), t ≤ out.length ∧ s5 = .int .i64 t ∧ Hid (∀ j (h : j < out.length), j < t → cf out[j] x < 0) ∧ Hid (wr.ownsRow w.heap.size 30 32 (.slice A out.length cc) out.length (flat out)) ∧ Hid (Go.RowKit.Below w.heap.size w wr)) (fun s5 _ => out.length - (intOf s5).toNat)
          case atStart => exact ⟨0, Nat.zero_le _, rfl, Lib.hid (fun j _ h => absurd h (Nat.not_lt_zero _)), hO1, hB1⟩
          case round =>
            clear hO1 hB1
            obtain ⟨t, ht, rfl, hpre, hO1, hB1⟩ := hrel
            have j0 : (0 : Int) ≤ t := by omega
            have j2 : (t : Int).toNat = t := by omega
            by_cases hlt2 : t < out.length
            · have j1 : (t : Int) < out.length := by omega
              have j3 : decide ((t : Int) < out.length) = true := by simp; omega
              obtain ⟨g, hA2, hg, hrow⟩ : ∃ g, A = some ⟨g, 0, none⟩ ∧ g < wr.heap.size ∧ wr.rangeAt g (t * 32) (bv out[t].1) := by
                rcases ids_own hO1.out with ⟨⟨a', c', e⟩, e2⟩ | ⟨b', off', c', e, hb', hc'⟩
                · rw [e2] at hlt2; simp at hlt2
                · rcases hO1.out.2 with ⟨e3, e4⟩ | ⟨g, cap, cur, e3, _, hg, _⟩
                  · omega
                  · cases e3
                    cases e
                    have := hc' t hlt2
                    rw [Nat.zero_add] at this
                    exact ⟨_, rfl, hb', this⟩
              subst hA2
              have hrow' := Lib.hid hrow
              have hstep : Hid (cf out[t] x < 0 → ∀ j (h : j < out.length), j < t + 1 → cf out[j] x < 0) := Lib.hid (fun hc j h hj => by
                by_cases e : j = t
                · subst e; exact hc
                · exact hpre.out j h (by omega))
              clear hrow
              generalize hu : out[t] = u at hrow' hstep
              have hug := Lib.hid hu
              clear hu
              have hlu := Lib.hid u.2
              obtain ⟨kc, hkc⟩ : ∃ kc, cf u x = kc := ⟨_, rfl⟩
              obtain ⟨C, hC1, hCB⟩ : ∃ C : World → Prop, C { wr with drawn := wr.drawn + 1 } ∧ ((∀ W W', C W → Go.RowKit.Below W.heap.size W W' → C W') ∧ (∀ W, C W → Go.RowKit.Below wr.heap.size wr W)) :=
                ⟨fun W => Go.RowKit.Below wr.heap.size wr W, (Go.RowKit.Below.refl _ _).drew, fun W W' h hb => h.trans (hb.mono h.size), fun W h => h⟩
              have hcmp : Hid (∀ W, C W → Calls Try.prog 18 #[.agg (bv u.1).toArray, .agg (bv x.1).toArray] W fun e w' => e = .returned (.int .i64 kc) ∧ C w') :=
                Lib.hid (fun W hW => (Try.rCompare u.1 x.1 u.2 x.2 W).mono fun e w' h => ⟨by rw [← hkc]; exact h.1, hCB.1 W w' hW h.2⟩)
              have hC1' := Lib.hid hC1
              have hCB' := Lib.hid hCB
              have hRa := Lib.hid (fun W hW => range_below (hCB.2 W hW) hg hrow'.out)
              have hRb := Lib.hid (fun W hW => range_below ((hB1.out.trans ((hCB.2 W hW).mono hB1.out.size))) hb hR0.out)
              have hkr := XK.cmp_three u.1 x.1
              change cf u x = -1 ∨ cf u x = 0 ∨ cf u x = 1 at hkr
              rw [hkc] at hkr
              have hHkc := Lib.hid hkc
              clear hC1 hCB hkc hg
              go_wp2_with fail
              refine q_region C (by kernel_rfl) (by kernel_rfl) hC1'.out ?_
              repeat (first
                | (refine q_ld Try.arrRId _ rfl rfl g (t * 32) rfl u.1 hlu.out hRa.out ?_)
                | (refine q_ld Try.arrRId _ rfl rfl b (off + k * 32) rfl x.1 hlx.out hRb.out ?_)
                | (refine wpQuiet_step (fun K hK => ?_)
                   go_simp
                   first
                   | (refine hK _ ?_; clear hK K)
                   | (apply Exists.intro
                      refine ⟨fun W hW => ?_, hK _ ?_⟩
                      first
                      | exact rfl
                      | exact ⟨rfl, rfl⟩
                      | (with_reducible exact hcmp.out W hW)
                      clear hK K)))
              refine wpQuiet_nil ?_
              intro V1 hV1
              have hb9 := (hCB'.out).2 V1 hV1
              have hO9 := Lib.hid (XK.own_below hO1.out hb9)
              have hB9 := Lib.hid (hB1.out.trans (hb9.mono hB1.out.size))
              clear hV1 hb9 hRa hRb hC1' hCB' hcmp hB1 hO1
              have hend : Hid (0 ≤ kc → t = out.length ∨ ∃ h : t < out.length, 0 ≤ cf out[t] x) := Lib.hid (fun h0 => .inr ⟨hlt2, by rw [hug.out, hHkc.out]; exact h0⟩)
              rcases hkr with rfl | rfl | rfl
              · go_wp2
                go_roundw
                case rel => exact ⟨t + 1, by omega, by simp, Lib.hid (hstep.out (by rw [hHkc.out]; decide)), hO9, hB9⟩
                case measure => simp [intOf]; omega
              · go_wp2_with fail
                go_meet
                case rel => exact ⟨t, by omega, rfl, hpre, Lib.hid (hend.out (by decide)), hO9, hB9⟩
              · go_wp2_with fail
                go_meet
                case rel => exact ⟨t, by omega, rfl, hpre, Lib.hid (hend.out (by decide)), hO9, hB9⟩
            · obtain rfl : t = out.length := by omega
              have j3 : decide ((out.length : Int) < out.length) = false := by simp
              go_wp2_with fail
              go_quiet (fail)
              go_wp2_with fail
              have hO9 := Lib.hid (XK.own_below hO1.out (XK.below_drewN (Go.RowKit.Below.refl _ _) nq))
              have hB9 := Lib.hid (hB1.out.trans ((XK.below_drewN (Go.RowKit.Below.refl _ _) nq).mono hB1.out.size))
              clear hB1 hO1
              go_meet
              case rel => exact ⟨out.length, Nat.le_refl _, rfl, hpre, Lib.hid (.inl rfl), hO9, hB9⟩
        case rest =>
          obtain ⟨t, ht, rfl, hpre, hpost, hO, hB⟩ := hcut
          have hNew : Hid (Asc (out.take t ++ x :: out.drop t) ∧ ∀ z, z ∈ out.take t ++ x :: out.drop t ↔ z ∈ zs.take (k + 1)) := Lib.hid ⟨ins_asc out x t ht hA.out.1 hno.out hpre.out hpost.out, fun z => by
            rw [ins_mem, hA.out.2 z, htk.out, List.mem_append, List.mem_singleton]⟩
          have htl : (out.take t).length = t := by simp <;> omega
          have hHtl := Lib.hid htl
          clear hpre hpost hA htk hno hHr hO1 hB1 htl
          have t0 : (0 : Int) ≤ t := by omega
          have t1 : (t : Int) ≤ out.length := by omega
          have t2 : (t : Int).toNat = t := by omega
          generalize wc = V at hO hB ⊢
          go_wp2_with fail
          rcases own_cases hO.out with ⟨rfl, rfl, he⟩ | ⟨g, rfl, hcc⟩
          · subst he
            obtain rfl : t = 0 := by simpa using ht
            have hHd : Hid (Ids V.heap.size V (.slice none 0 0) ([] : List I32)) := Lib.hid (.inl ⟨⟨none, 0, rfl⟩, rfl⟩)
            have hTl : Hid (Ids V.heap.size V (.slice none 0 0) ([] : List I32)) := Lib.hid (.inl ⟨⟨none, 0, rfl⟩, rfl⟩)
            clear hO t0 t1 t2 hHtl
            refine wp_region_held (S := fun w' => Go.RowKit.Below V.heap.size V w') (by kernel_rfl) ?_
            have hS : Go.RowKit.Below V.heap.size V { V with drawn := V.drawn + 1 } := (Go.RowKit.Below.refl _ _).drew
            refine h_val (i := 1) (v := ?_) rfl (by kernel_rfl) (by kernel_rfl) (by kernel_rfl) (fun _ _ _ h => h) rfl ?_ hS ?_
            rotate_left
            · intro W hW
              go_simp
              try exact rfl
            try simp only [Act.put, List.getElem_toArray, List.getElem_cons_zero, List.getElem_cons_succ, List.setIfInBounds_toArray, List.set_cons_zero, List.set_cons_succ]
            refine h_val (i := 2) (v := ?_) rfl (by kernel_rfl) (by kernel_rfl) (by kernel_rfl) (fun _ _ _ h => h) rfl ?_ hS ?_
            rotate_left
            · intro W hW
              go_simp
              try exact rfl
            try simp only [Act.put, List.getElem_toArray, List.getElem_cons_zero, List.getElem_cons_succ, List.setIfInBounds_toArray, List.set_cons_zero, List.set_cons_succ]
            refine h_val (i := 3) (v := ?_) rfl (by kernel_rfl) (by kernel_rfl) (by kernel_rfl) (fun _ _ _ h => h) rfl ?_ hS ?_
            rotate_left
            · intro W hW
              go_simp
              try exact rfl
            try simp only [Act.put, List.getElem_toArray, List.getElem_cons_zero, List.getElem_cons_succ, List.setIfInBounds_toArray, List.set_cons_zero, List.set_cons_succ]
            refine h_val (i := 5) (v := ?_) rfl (by kernel_rfl) (by kernel_rfl) (by kernel_rfl) (fun _ _ _ h => h) rfl ?_ hS ?_
            rotate_left
            · intro W hW
              go_simp
              try exact rfl
            try simp only [Act.put, List.getElem_toArray, List.getElem_cons_zero, List.getElem_cons_succ, List.setIfInBounds_toArray, List.set_cons_zero, List.set_cons_succ]
            refine h_val (i := 6) (v := ?_) rfl (by kernel_rfl) (by kernel_rfl) (by kernel_rfl) (fun _ _ _ h => h) rfl ?_ hS ?_
            rotate_left
            · intro W hW
              go_simp
              try exact rfl
            try simp only [Act.put, List.getElem_toArray, List.getElem_cons_zero, List.getElem_cons_succ, List.setIfInBounds_toArray, List.set_cons_zero, List.set_cons_succ]
            refine h_val (i := 7) (v := ?_) rfl (by kernel_rfl) (by kernel_rfl) (by kernel_rfl) (fun _ _ _ h => h) rfl ?_ hS ?_
            rotate_left
            · intro W hW
              go_simp
              try exact rfl
            try simp only [Act.put, List.getElem_toArray, List.getElem_cons_zero, List.getElem_cons_succ, List.setIfInBounds_toArray, List.set_cons_zero, List.set_cons_succ]
            refine h_val (i := 8) rfl (by kernel_rfl) (by kernel_rfl) (by kernel_rfl) (fun _ _ _ h => h) rfl (fun W hW => run_ld Try.arrRId _ rfl b (off + k * 32) rfl x.1 hlx.out (range_below (hB.out.trans (hW.mono hB.out.size)) hb hR0.out)) hS ?_
            try simp only [Act.put, List.getElem_toArray, List.getElem_cons_zero, List.getElem_cons_succ, List.setIfInBounds_toArray, List.set_cons_zero, List.set_cons_succ]
            refine h_val (i := 11) (v := ?_) rfl (by kernel_rfl) (by kernel_rfl) (by kernel_rfl) (fun _ _ _ h => h) rfl ?_ hS ?_
            rotate_left
            · intro W hW
              go_simp
              try exact rfl
            try simp only [Act.put, List.getElem_toArray, List.getElem_cons_zero, List.getElem_cons_succ, List.setIfInBounds_toArray, List.set_cons_zero, List.set_cons_succ]
            refine h_val (i := 12) (v := ?_) rfl (by kernel_rfl) (by kernel_rfl) (by kernel_rfl) (fun _ _ _ h => h) rfl ?_ hS ?_
            rotate_left
            · intro W hW
              go_simp
              try exact rfl
            try simp only [Act.put, List.getElem_toArray, List.getElem_cons_zero, List.getElem_cons_succ, List.setIfInBounds_toArray, List.set_cons_zero, List.set_cons_succ]
            refine h_val (i := 13) (v := ?_) rfl (by kernel_rfl) (by kernel_rfl) (by kernel_rfl) (fun _ _ _ h => h) rfl ?_ hS ?_
            rotate_left
            · intro W hW
              go_simp
              try exact rfl
            try simp only [Act.put, List.getElem_toArray, List.getElem_cons_zero, List.getElem_cons_succ, List.setIfInBounds_toArray, List.set_cons_zero, List.set_cons_succ]
            have hsz : V.heap.size = ({ V with drawn := V.drawn + 1 } : World).heap.size := rfl
            generalize ({ V with drawn := V.drawn + 1 } : World) = V1 at hS hsz ⊢
            refine wpAnyH_ready (rs := [0, 9]) (by kernel_rfl) (by simp) ?_
            refine h_b0 Try.arrRId Try.underlying47 rfl rfl rfl (hS.alloc hS.size _) ?_ ?_
            · try simp only [Act.put, List.getElem_toArray, List.getElem_cons_zero, List.getElem_cons_succ, List.setIfInBounds_toArray, List.set_cons_zero, List.set_cons_succ]
              have hS0 := hS.alloc hS.size (.cells #[] 30)
              have hO0 := own_base hS.size (own_new V1 30)
              have hl0 : V.heap.size < (V1.alloc (.cells #[] 30)).heap.size := by simp <;> omega
              rw [← hsz] at hO0 ⊢
              clear hS hsz
              generalize V1.alloc (.cells #[] 30) = W0 at hS0 hO0 hl0 ⊢
              refine wpAnyH_ready (rs := [4, 9]) (by kernel_rfl) (by simp) ?_
              refine h_app Try.arrRId Try.underlying47 Try.infoRId rfl rfl _ _ rfl V.heap.size _ _ _ rfl hO0 _ (([] : List I32)) rfl (hHd.out.below hS0) (by simp <;> omega) (by have := hS0.size; omega) (fun v4 W4 hO4 hg4 => ?_) ?_
              · have hS4 := hS0.grown hg4 hS0.size (fun j e => (hO0.lt j e).1)
                refine ⟨hS4, ?_⟩
                try simp only [Act.put, List.getElem_toArray, List.getElem_cons_zero, List.getElem_cons_succ, List.setIfInBounds_toArray, List.set_cons_zero, List.set_cons_succ]
                clear hO0 hS0 hg4
                refine wpAnyH_ready (rs := [9]) (by kernel_rfl) (by simp) ?_
                refine h_b1 Try.arrRId Try.underlying47 rfl rfl _ rfl x.1 hlx.out rfl (hS4.alloc hS4.size _) ?_ AllReadyH.nil
                try simp only [Act.put, List.getElem_toArray, List.getElem_cons_zero, List.getElem_cons_succ, List.setIfInBounds_toArray, List.set_cons_zero, List.set_cons_succ]
                have hS9 := hS4.alloc hS4.size (.cells (bv x.1).toArray 30)
                have hx9 := one_new W4 x 30
                have hx9b : W4.heap.size < (W4.alloc (.cells (bv x.1).toArray 30)).heap.size := by simp
                replace hO4 := hO4.alloc (.cells (bv x.1).toArray 30)
                clear hS4
                generalize W4.alloc (.cells (bv x.1).toArray 30) = W9 at hS9 hx9 hx9b hO4 ⊢
                refine wpAnyH_ready (rs := [10]) (by kernel_rfl) (by simp) ?_
                refine h_app Try.arrRId Try.underlying47 Try.infoRId rfl rfl _ _ rfl V.heap.size _ _ _ rfl hO4 _ [x] rfl (one_ids hx9b hx9) (by simp <;> omega) (by have := hS9.size; omega) (fun v10 W10 hO10 hg10 => ?_) AllReadyH.nil
                have hS10 := hS9.grown hg10 hS9.size (fun j e => (hO4.lt j e).1)
                refine ⟨hS10, ?_⟩
                try simp only [Act.put, List.getElem_toArray, List.getElem_cons_zero, List.getElem_cons_succ, List.setIfInBounds_toArray, List.set_cons_zero, List.set_cons_succ]
                clear hO4 hg10 hx9 hx9b
                refine wpAnyH_ready (rs := [14]) (by kernel_rfl) (by simp) ?_
                refine h_app Try.arrRId Try.underlying47 Try.infoRId rfl rfl _ _ rfl V.heap.size _ _ _ rfl hO10 _ (([] : List I32)) rfl (hTl.out.below hS10) (by simp <;> omega) (by have := hS10.size; omega) (fun v14 W14 hO14 hg14 => ?_) AllReadyH.nil
                have hS14 := hS10.grown hg14 hS10.size (fun j e => (hO10.lt j e).1)
                refine ⟨hS14, ?_⟩
                try simp only [Act.put, List.getElem_toArray, List.getElem_cons_zero, List.getElem_cons_succ, List.setIfInBounds_toArray, List.set_cons_zero, List.set_cons_succ]
                clear hO10 hg14 hS10
                have hS := hS14
                refine h_val (i := 15) (v := v14) rfl (by kernel_rfl) (by kernel_rfl) (by kernel_rfl) (fun _ _ _ h => h) rfl (fun _ _ => rfl) hS ?_
                try simp only [Act.put, List.getElem_toArray, List.getElem_cons_zero, List.getElem_cons_succ, List.setIfInBounds_toArray, List.set_cons_zero, List.set_cons_succ]
                refine wpAnyH_done (by kernel_rfl) ?_ _
                have hOe : Hid (W14.ownsRow w.heap.size 30 32 v14 (([] : List I32) ++ x :: ([] : List I32)).length (flat (([] : List I32) ++ x :: ([] : List I32)))) := Lib.hid (by
                  have h1 := own_base hB.out.size hO14
                  have e1 : (([] : List I32) ++ x :: ([] : List I32)).length = 0 + (([] : List I32)).length + [x].length + (([] : List I32)).length := by simp <;> omega
                  have e2 : flat (([] : List I32) ++ x :: ([] : List I32)) = [] ++ flat (([] : List I32)) ++ flat [x] ++ flat (([] : List I32)) := by simp [flat]
                  rw [e1, e2]
                  exact h1)
                have hBe := Lib.hid (hB.out.trans (hS14.mono hB.out.size))
                clear hO14 hS14 hS
                obtain ⟨A', cc', rfl⟩ := XK.own_slice hOe.out
                go_wp2
                go_roundg (n - (k + 1))
                case measure => omega
                case rel => exact ⟨k + 1, ([] : List I32) ++ x :: ([] : List I32), by omega, Nat.le_refl _, by simp, by simp <;> omega, hNew, hOe, hBe⟩
              · refine h_b1 Try.arrRId Try.underlying47 rfl rfl _ rfl x.1 hlx.out rfl (hS0.alloc hS0.size _) ?_ AllReadyH.nil
                try simp only [Act.put, List.getElem_toArray, List.getElem_cons_zero, List.getElem_cons_succ, List.setIfInBounds_toArray, List.set_cons_zero, List.set_cons_succ]
                have hS9 := hS0.alloc hS0.size (.cells (bv x.1).toArray 30)
                have hx9 := one_new W0 x 30
                have hx9b : W0.heap.size < (W0.alloc (.cells (bv x.1).toArray 30)).heap.size := by simp
                have hne : some W0.heap.size ≠ Value.ownBlock (.slice (some ⟨V.heap.size, 0, none⟩) 0 0) := by simp [Value.ownBlock]; omega
                replace hO0 := hO0.alloc (.cells (bv x.1).toArray 30)
                clear hS0
                generalize W0.alloc (.cells (bv x.1).toArray 30) = W9 at hS9 hx9 hx9b hO0 ⊢
                refine wpAnyH_ready (rs := [4]) (by kernel_rfl) (by simp) ?_
                refine h_app Try.arrRId Try.underlying47 Try.infoRId rfl rfl _ _ rfl V.heap.size _ _ _ rfl hO0 _ (([] : List I32)) rfl (hHd.out.below hS9) (by simp <;> omega) (by have := hS9.size; omega) (fun v4 W4 hO4 hg4 => ?_) AllReadyH.nil
                have hS4 := hS9.grown hg4 hS9.size (fun j e => (hO0.lt j e).1)
                refine ⟨hS4, ?_⟩
                try simp only [Act.put, List.getElem_toArray, List.getElem_cons_zero, List.getElem_cons_succ, List.setIfInBounds_toArray, List.set_cons_zero, List.set_cons_succ]
                have hx9' := range_grown hg4 hx9b hne hx9
                have hx9b' := Nat.lt_of_lt_of_le hx9b hg4.size
                clear hx9 hx9b hO0 hS9 hg4
                have hx9 := hx9'
                have hx9b := hx9b'
                clear hx9' hx9b'
                refine wpAnyH_ready (rs := [10]) (by kernel_rfl) (by simp) ?_
                refine h_app Try.arrRId Try.underlying47 Try.infoRId rfl rfl _ _ rfl V.heap.size _ _ _ rfl hO4 _ [x] rfl (one_ids hx9b hx9) (by simp <;> omega) (by have := hS4.size; omega) (fun v10 W10 hO10 hg10 => ?_) AllReadyH.nil
                have hS10 := hS4.grown hg10 hS4.size (fun j e => (hO4.lt j e).1)
                refine ⟨hS10, ?_⟩
                try simp only [Act.put, List.getElem_toArray, List.getElem_cons_zero, List.getElem_cons_succ, List.setIfInBounds_toArray, List.set_cons_zero, List.set_cons_succ]
                clear hO4 hg10 hx9 hx9b
                refine wpAnyH_ready (rs := [14]) (by kernel_rfl) (by simp) ?_
                refine h_app Try.arrRId Try.underlying47 Try.infoRId rfl rfl _ _ rfl V.heap.size _ _ _ rfl hO10 _ (([] : List I32)) rfl (hTl.out.below hS10) (by simp <;> omega) (by have := hS10.size; omega) (fun v14 W14 hO14 hg14 => ?_) AllReadyH.nil
                have hS14 := hS10.grown hg14 hS10.size (fun j e => (hO10.lt j e).1)
                refine ⟨hS14, ?_⟩
                try simp only [Act.put, List.getElem_toArray, List.getElem_cons_zero, List.getElem_cons_succ, List.setIfInBounds_toArray, List.set_cons_zero, List.set_cons_succ]
                clear hO10 hg14 hS10
                have hS := hS14
                refine h_val (i := 15) (v := v14) rfl (by kernel_rfl) (by kernel_rfl) (by kernel_rfl) (fun _ _ _ h => h) rfl (fun _ _ => rfl) hS ?_
                try simp only [Act.put, List.getElem_toArray, List.getElem_cons_zero, List.getElem_cons_succ, List.setIfInBounds_toArray, List.set_cons_zero, List.set_cons_succ]
                refine wpAnyH_done (by kernel_rfl) ?_ _
                have hOe : Hid (W14.ownsRow w.heap.size 30 32 v14 (([] : List I32) ++ x :: ([] : List I32)).length (flat (([] : List I32) ++ x :: ([] : List I32)))) := Lib.hid (by
                  have h1 := own_base hB.out.size hO14
                  have e1 : (([] : List I32) ++ x :: ([] : List I32)).length = 0 + (([] : List I32)).length + [x].length + (([] : List I32)).length := by simp <;> omega
                  have e2 : flat (([] : List I32) ++ x :: ([] : List I32)) = [] ++ flat (([] : List I32)) ++ flat [x] ++ flat (([] : List I32)) := by simp [flat]
                  rw [e1, e2]
                  exact h1)
                have hBe := Lib.hid (hB.out.trans (hS14.mono hB.out.size))
                clear hO14 hS14 hS
                obtain ⟨A', cc', rfl⟩ := XK.own_slice hOe.out
                go_wp2
                go_roundg (n - (k + 1))
                case measure => omega
                case rel => exact ⟨k + 1, ([] : List I32) ++ x :: ([] : List I32), by omega, Nat.le_refl _, by simp, by simp <;> omega, hNew, hOe, hBe⟩
            · refine h_b1 Try.arrRId Try.underlying47 rfl rfl _ rfl x.1 hlx.out rfl (hS.alloc hS.size _) ?_ AllReadyH.nil
              try simp only [Act.put, List.getElem_toArray, List.getElem_cons_zero, List.getElem_cons_succ, List.setIfInBounds_toArray, List.set_cons_zero, List.set_cons_succ]
              have hS9 := hS.alloc hS.size (.cells (bv x.1).toArray 30)
              have hx90 := one_new V1 x 30
              have hx9b0 : V.heap.size < (V1.alloc (.cells (bv x.1).toArray 30)).heap.size := by simp <;> omega
              rw [← hsz] at hx90 ⊢
              clear hS hsz
              generalize V1.alloc (.cells (bv x.1).toArray 30) = W9 at hS9 hx90 hx9b0 ⊢
              refine wpAnyH_ready (rs := [0]) (by kernel_rfl) (by simp) ?_
              refine h_b0 Try.arrRId Try.underlying47 rfl rfl rfl (hS9.alloc hS9.size _) ?_ AllReadyH.nil
              try simp only [Act.put, List.getElem_toArray, List.getElem_cons_zero, List.getElem_cons_succ, List.setIfInBounds_toArray, List.set_cons_zero, List.set_cons_succ]
              have hS0 := hS9.alloc hS9.size (.cells #[] 30)
              have hO0 := own_base hS9.size (own_new W9 30)
              have hx9 := range_below ((Go.RowKit.Below.refl W9.heap.size W9).alloc (Nat.le_refl _) (.cells #[] 30)) hx9b0 hx90
              have hx9b : V.heap.size < (W9.alloc (.cells #[] 30)).heap.size := by simp <;> omega
              have hne : some V.heap.size ≠ Value.ownBlock (.slice (some ⟨W9.heap.size, 0, none⟩) 0 0) := by simp [Value.ownBlock]; omega
              clear hS9 hx90 hx9b0
              generalize W9.heap.size = n0 at hO0 hne ⊢
              generalize W9.alloc (.cells #[] 30) = W0 at hS0 hO0 hx9 hx9b ⊢
              refine wpAnyH_ready (rs := [4]) (by kernel_rfl) (by simp) ?_
              refine h_app Try.arrRId Try.underlying47 Try.infoRId rfl rfl _ _ rfl V.heap.size _ _ _ rfl hO0 _ (([] : List I32)) rfl (hHd.out.below hS0) (by simp <;> omega) (by have := hS0.size; omega) (fun v4 W4 hO4 hg4 => ?_) AllReadyH.nil
              have hS4 := hS0.grown hg4 hS0.size (fun j e => (hO0.lt j e).1)
              refine ⟨hS4, ?_⟩
              try simp only [Act.put, List.getElem_toArray, List.getElem_cons_zero, List.getElem_cons_succ, List.setIfInBounds_toArray, List.set_cons_zero, List.set_cons_succ]
              have hx9' := range_grown hg4 hx9b hne hx9
              have hx9b' := Nat.lt_of_lt_of_le hx9b hg4.size
              clear hx9 hx9b hO0 hS0 hg4
              have hx9 := hx9'
              have hx9b := hx9b'
              clear hx9' hx9b'
              refine wpAnyH_ready (rs := [10]) (by kernel_rfl) (by simp) ?_
              refine h_app Try.arrRId Try.underlying47 Try.infoRId rfl rfl _ _ rfl V.heap.size _ _ _ rfl hO4 _ [x] rfl (one_ids hx9b hx9) (by simp <;> omega) (by have := hS4.size; omega) (fun v10 W10 hO10 hg10 => ?_) AllReadyH.nil
              have hS10 := hS4.grown hg10 hS4.size (fun j e => (hO4.lt j e).1)
              refine ⟨hS10, ?_⟩
              try simp only [Act.put, List.getElem_toArray, List.getElem_cons_zero, List.getElem_cons_succ, List.setIfInBounds_toArray, List.set_cons_zero, List.set_cons_succ]
              clear hO4 hg10 hx9 hx9b
              refine wpAnyH_ready (rs := [14]) (by kernel_rfl) (by simp) ?_
              refine h_app Try.arrRId Try.underlying47 Try.infoRId rfl rfl _ _ rfl V.heap.size _ _ _ rfl hO10 _ (([] : List I32)) rfl (hTl.out.below hS10) (by simp <;> omega) (by have := hS10.size; omega) (fun v14 W14 hO14 hg14 => ?_) AllReadyH.nil
              have hS14 := hS10.grown hg14 hS10.size (fun j e => (hO10.lt j e).1)
              refine ⟨hS14, ?_⟩
              try simp only [Act.put, List.getElem_toArray, List.getElem_cons_zero, List.getElem_cons_succ, List.setIfInBounds_toArray, List.set_cons_zero, List.set_cons_succ]
              clear hO10 hg14 hS10
              have hS := hS14
              refine h_val (i := 15) (v := v14) rfl (by kernel_rfl) (by kernel_rfl) (by kernel_rfl) (fun _ _ _ h => h) rfl (fun _ _ => rfl) hS ?_
              try simp only [Act.put, List.getElem_toArray, List.getElem_cons_zero, List.getElem_cons_succ, List.setIfInBounds_toArray, List.set_cons_zero, List.set_cons_succ]
              refine wpAnyH_done (by kernel_rfl) ?_ _
              have hOe : Hid (W14.ownsRow w.heap.size 30 32 v14 (([] : List I32) ++ x :: ([] : List I32)).length (flat (([] : List I32) ++ x :: ([] : List I32)))) := Lib.hid (by
                have h1 := own_base hB.out.size hO14
                have e1 : (([] : List I32) ++ x :: ([] : List I32)).length = 0 + (([] : List I32)).length + [x].length + (([] : List I32)).length := by simp <;> omega
                have e2 : flat (([] : List I32) ++ x :: ([] : List I32)) = [] ++ flat (([] : List I32)) ++ flat [x] ++ flat (([] : List I32)) := by simp [flat]
                rw [e1, e2]
                exact h1)
              have hBe := Lib.hid (hB.out.trans (hS14.mono hB.out.size))
              clear hO14 hS14 hS
              obtain ⟨A', cc', rfl⟩ := XK.own_slice hOe.out
              go_wp2
              go_roundg (n - (k + 1))
              case measure => omega
              case rel => exact ⟨k + 1, ([] : List I32) ++ x :: ([] : List I32), by omega, Nat.le_refl _, by simp, by simp <;> omega, hNew, hOe, hBe⟩
          · have t3 : (t : Int) ≤ cc := by omega
            have t4 : (out.length : Int) ≤ cc := by omega
            have t5 : out.length ≤ 500 := by omega
            obtain ⟨b2, hb2⟩ : ∃ b2, (if cc = t then some ⟨g, 0, none⟩ else some ⟨g, t * 32, none⟩ : Option Addr) = b2 := ⟨_, rfl⟩
            have hHd : Hid (Ids V.heap.size V (.slice (some ⟨g, 0, none⟩) t cc) (out.take t)) := Lib.hid (ids_head hO.out t ht)
            have hTl : Hid (Ids V.heap.size V (.slice b2 (out.length - t) (cc - t)) (out.drop t)) := Lib.hid (ids_tail hO.out t ht b2 (by rw [← hb2]; exact (fun e => by simp only [e] : (t = cc) = (cc = t) → _) (propext eq_comm)))
            clear hO
            refine wp_region_held (S := fun w' => Go.RowKit.Below V.heap.size V w') (by kernel_rfl) ?_
            have hS : Go.RowKit.Below V.heap.size V { V with drawn := V.drawn + 1 } := (Go.RowKit.Below.refl _ _).drew
            refine h_val (i := 1) (v := ?_) rfl (by kernel_rfl) (by kernel_rfl) (by kernel_rfl) (fun _ _ _ h => h) rfl ?_ hS ?_
            rotate_left
            · intro W hW
              go_simp
              try exact rfl
            try simp only [Act.put, List.getElem_toArray, List.getElem_cons_zero, List.getElem_cons_succ, List.setIfInBounds_toArray, List.set_cons_zero, List.set_cons_succ]
            refine h_val (i := 2) (v := ?_) rfl (by kernel_rfl) (by kernel_rfl) (by kernel_rfl) (fun _ _ _ h => h) rfl ?_ hS ?_
            rotate_left
            · intro W hW
              go_simp
              try exact rfl
            try simp only [Act.put, List.getElem_toArray, List.getElem_cons_zero, List.getElem_cons_succ, List.setIfInBounds_toArray, List.set_cons_zero, List.set_cons_succ]
            refine h_val (i := 3) (v := ?_) rfl (by kernel_rfl) (by kernel_rfl) (by kernel_rfl) (fun _ _ _ h => h) rfl ?_ hS ?_
            rotate_left
            · intro W hW
              go_simp
              try exact rfl
            try simp only [Act.put, List.getElem_toArray, List.getElem_cons_zero, List.getElem_cons_succ, List.setIfInBounds_toArray, List.set_cons_zero, List.set_cons_succ]
            refine h_val (i := 5) (v := ?_) rfl (by kernel_rfl) (by kernel_rfl) (by kernel_rfl) (fun _ _ _ h => h) rfl ?_ hS ?_
            rotate_left
            · intro W hW
              go_simp
              try exact rfl
            try simp only [Act.put, List.getElem_toArray, List.getElem_cons_zero, List.getElem_cons_succ, List.setIfInBounds_toArray, List.set_cons_zero, List.set_cons_succ]
            refine h_val (i := 6) (v := ?_) rfl (by kernel_rfl) (by kernel_rfl) (by kernel_rfl) (fun _ _ _ h => h) rfl ?_ hS ?_
            rotate_left
            · intro W hW
              go_simp
              try exact rfl
            try simp only [Act.put, List.getElem_toArray, List.getElem_cons_zero, List.getElem_cons_succ, List.setIfInBounds_toArray, List.set_cons_zero, List.set_cons_succ]
            refine h_val (i := 7) (v := ?_) rfl (by kernel_rfl) (by kernel_rfl) (by kernel_rfl) (fun _ _ _ h => h) rfl ?_ hS ?_
            rotate_left
            · intro W hW
              go_simp
              try exact rfl
            try simp only [Act.put, List.getElem_toArray, List.getElem_cons_zero, List.getElem_cons_succ, List.setIfInBounds_toArray, List.set_cons_zero, List.set_cons_succ]
            refine h_val (i := 8) rfl (by kernel_rfl) (by kernel_rfl) (by kernel_rfl) (fun _ _ _ h => h) rfl (fun W hW => run_ld Try.arrRId _ rfl b (off + k * 32) rfl x.1 hlx.out (range_below (hB.out.trans (hW.mono hB.out.size)) hb hR0.out)) hS ?_
            try simp only [Act.put, List.getElem_toArray, List.getElem_cons_zero, List.getElem_cons_succ, List.setIfInBounds_toArray, List.set_cons_zero, List.set_cons_succ]
            refine h_val (i := 11) (v := ?_) rfl (by kernel_rfl) (by kernel_rfl) (by kernel_rfl) (fun _ _ _ h => h) rfl ?_ hS ?_
            rotate_left
            · intro W hW
              go_simp
              try exact rfl
            try simp only [Act.put, List.getElem_toArray, List.getElem_cons_zero, List.getElem_cons_succ, List.setIfInBounds_toArray, List.set_cons_zero, List.set_cons_succ]
            refine h_val (i := 12) (v := ?_) rfl (by kernel_rfl) (by kernel_rfl) (by kernel_rfl) (fun _ _ _ h => h) rfl ?_ hS ?_
            rotate_left
            · intro W hW
              go_simp
              try exact rfl
            try simp only [Act.put, List.getElem_toArray, List.getElem_cons_zero, List.getElem_cons_succ, List.setIfInBounds_toArray, List.set_cons_zero, List.set_cons_succ]
            refine h_val (i := 13) (v := ?_) rfl (by kernel_rfl) (by kernel_rfl) (by kernel_rfl) (fun _ _ _ h => h) rfl ?_ hS ?_
            rotate_left
            · intro W hW
              go_simp
              try exact rfl
            try simp only [Act.put, List.getElem_toArray, List.getElem_cons_zero, List.getElem_cons_succ, List.setIfInBounds_toArray, List.set_cons_zero, List.set_cons_succ]
            have hsz : V.heap.size = ({ V with drawn := V.drawn + 1 } : World).heap.size := rfl
            generalize ({ V with drawn := V.drawn + 1 } : World) = V1 at hS hsz ⊢
            refine wpAnyH_ready (rs := [0, 9]) (by kernel_rfl) (by simp) ?_
            refine h_b0 Try.arrRId Try.underlying47 rfl rfl rfl (hS.alloc hS.size _) ?_ ?_
            · try simp only [Act.put, List.getElem_toArray, List.getElem_cons_zero, List.getElem_cons_succ, List.setIfInBounds_toArray, List.set_cons_zero, List.set_cons_succ]
              have hS0 := hS.alloc hS.size (.cells #[] 30)
              have hO0 := own_base hS.size (own_new V1 30)
              have hl0 : V.heap.size < (V1.alloc (.cells #[] 30)).heap.size := by simp <;> omega
              rw [← hsz] at hO0 ⊢
              clear hS hsz
              generalize V1.alloc (.cells #[] 30) = W0 at hS0 hO0 hl0 ⊢
              refine wpAnyH_ready (rs := [4, 9]) (by kernel_rfl) (by simp) ?_
              refine h_app Try.arrRId Try.underlying47 Try.infoRId rfl rfl _ _ rfl V.heap.size _ _ _ rfl hO0 _ (out.take t) rfl (hHd.out.below hS0) (by simp <;> omega) (by have := hS0.size; omega) (fun v4 W4 hO4 hg4 => ?_) ?_
              · have hS4 := hS0.grown hg4 hS0.size (fun j e => (hO0.lt j e).1)
                refine ⟨hS4, ?_⟩
                try simp only [Act.put, List.getElem_toArray, List.getElem_cons_zero, List.getElem_cons_succ, List.setIfInBounds_toArray, List.set_cons_zero, List.set_cons_succ]
                clear hO0 hS0 hg4
                refine wpAnyH_ready (rs := [9]) (by kernel_rfl) (by simp) ?_
                refine h_b1 Try.arrRId Try.underlying47 rfl rfl _ rfl x.1 hlx.out rfl (hS4.alloc hS4.size _) ?_ AllReadyH.nil
                try simp only [Act.put, List.getElem_toArray, List.getElem_cons_zero, List.getElem_cons_succ, List.setIfInBounds_toArray, List.set_cons_zero, List.set_cons_succ]
                have hS9 := hS4.alloc hS4.size (.cells (bv x.1).toArray 30)
                have hx9 := one_new W4 x 30
                have hx9b : W4.heap.size < (W4.alloc (.cells (bv x.1).toArray 30)).heap.size := by simp
                replace hO4 := hO4.alloc (.cells (bv x.1).toArray 30)
                clear hS4
                generalize W4.alloc (.cells (bv x.1).toArray 30) = W9 at hS9 hx9 hx9b hO4 ⊢
                refine wpAnyH_ready (rs := [10]) (by kernel_rfl) (by simp) ?_
                refine h_app Try.arrRId Try.underlying47 Try.infoRId rfl rfl _ _ rfl V.heap.size _ _ _ rfl hO4 _ [x] rfl (one_ids hx9b hx9) (by simp <;> omega) (by have := hS9.size; omega) (fun v10 W10 hO10 hg10 => ?_) AllReadyH.nil
                have hS10 := hS9.grown hg10 hS9.size (fun j e => (hO4.lt j e).1)
                refine ⟨hS10, ?_⟩
                try simp only [Act.put, List.getElem_toArray, List.getElem_cons_zero, List.getElem_cons_succ, List.setIfInBounds_toArray, List.set_cons_zero, List.set_cons_succ]
                clear hO4 hg10 hx9 hx9b
                refine wpAnyH_ready (rs := [14]) (by kernel_rfl) (by simp) ?_
                refine h_app Try.arrRId Try.underlying47 Try.infoRId rfl rfl _ _ rfl V.heap.size _ _ _ rfl hO10 _ (out.drop t) rfl (hTl.out.below hS10) (by simp <;> omega) (by have := hS10.size; omega) (fun v14 W14 hO14 hg14 => ?_) AllReadyH.nil
                have hS14 := hS10.grown hg14 hS10.size (fun j e => (hO10.lt j e).1)
                refine ⟨hS14, ?_⟩
                try simp only [Act.put, List.getElem_toArray, List.getElem_cons_zero, List.getElem_cons_succ, List.setIfInBounds_toArray, List.set_cons_zero, List.set_cons_succ]
                clear hO10 hg14 hS10
                have hS := hS14
                refine h_val (i := 15) (v := v14) rfl (by kernel_rfl) (by kernel_rfl) (by kernel_rfl) (fun _ _ _ h => h) rfl (fun _ _ => rfl) hS ?_
                try simp only [Act.put, List.getElem_toArray, List.getElem_cons_zero, List.getElem_cons_succ, List.setIfInBounds_toArray, List.set_cons_zero, List.set_cons_succ]
                refine wpAnyH_done (by kernel_rfl) ?_ _
                have hOe : Hid (W14.ownsRow w.heap.size 30 32 v14 (out.take t ++ x :: out.drop t).length (flat (out.take t ++ x :: out.drop t))) := Lib.hid (by
                  have h1 := own_base hB.out.size hO14
                  have e1 : (out.take t ++ x :: out.drop t).length = 0 + (out.take t).length + [x].length + (out.drop t).length := by simp <;> omega
                  have e2 : flat (out.take t ++ x :: out.drop t) = [] ++ flat (out.take t) ++ flat [x] ++ flat (out.drop t) := by simp [flat]
                  rw [e1, e2]
                  exact h1)
                have hBe := Lib.hid (hB.out.trans (hS14.mono hB.out.size))
                clear hO14 hS14 hS
                obtain ⟨A', cc', rfl⟩ := XK.own_slice hOe.out
                go_wp2
                go_roundg (n - (k + 1))
                case measure => omega
                case rel => exact ⟨k + 1, out.take t ++ x :: out.drop t, by omega, Nat.le_refl _, by simp, by simp <;> omega, hNew, hOe, hBe⟩
              · refine h_b1 Try.arrRId Try.underlying47 rfl rfl _ rfl x.1 hlx.out rfl (hS0.alloc hS0.size _) ?_ AllReadyH.nil
                try simp only [Act.put, List.getElem_toArray, List.getElem_cons_zero, List.getElem_cons_succ, List.setIfInBounds_toArray, List.set_cons_zero, List.set_cons_succ]
                have hS9 := hS0.alloc hS0.size (.cells (bv x.1).toArray 30)
                have hx9 := one_new W0 x 30
                have hx9b : W0.heap.size < (W0.alloc (.cells (bv x.1).toArray 30)).heap.size := by simp
                have hne : some W0.heap.size ≠ Value.ownBlock (.slice (some ⟨V.heap.size, 0, none⟩) 0 0) := by simp [Value.ownBlock]; omega
                replace hO0 := hO0.alloc (.cells (bv x.1).toArray 30)
                clear hS0
                generalize W0.alloc (.cells (bv x.1).toArray 30) = W9 at hS9 hx9 hx9b hO0 ⊢
                refine wpAnyH_ready (rs := [4]) (by kernel_rfl) (by simp) ?_
                refine h_app Try.arrRId Try.underlying47 Try.infoRId rfl rfl _ _ rfl V.heap.size _ _ _ rfl hO0 _ (out.take t) rfl (hHd.out.below hS9) (by simp <;> omega) (by have := hS9.size; omega) (fun v4 W4 hO4 hg4 => ?_) AllReadyH.nil
                have hS4 := hS9.grown hg4 hS9.size (fun j e => (hO0.lt j e).1)
                refine ⟨hS4, ?_⟩
                try simp only [Act.put, List.getElem_toArray, List.getElem_cons_zero, List.getElem_cons_succ, List.setIfInBounds_toArray, List.set_cons_zero, List.set_cons_succ]
                have hx9' := range_grown hg4 hx9b hne hx9
                have hx9b' := Nat.lt_of_lt_of_le hx9b hg4.size
                clear hx9 hx9b hO0 hS9 hg4
                have hx9 := hx9'
                have hx9b := hx9b'
                clear hx9' hx9b'
                refine wpAnyH_ready (rs := [10]) (by kernel_rfl) (by simp) ?_
                refine h_app Try.arrRId Try.underlying47 Try.infoRId rfl rfl _ _ rfl V.heap.size _ _ _ rfl hO4 _ [x] rfl (one_ids hx9b hx9) (by simp <;> omega) (by have := hS4.size; omega) (fun v10 W10 hO10 hg10 => ?_) AllReadyH.nil
                have hS10 := hS4.grown hg10 hS4.size (fun j e => (hO4.lt j e).1)
                refine ⟨hS10, ?_⟩
                try simp only [Act.put, List.getElem_toArray, List.getElem_cons_zero, List.getElem_cons_succ, List.setIfInBounds_toArray, List.set_cons_zero, List.set_cons_succ]
                clear hO4 hg10 hx9 hx9b
                refine wpAnyH_ready (rs := [14]) (by kernel_rfl) (by simp) ?_
                refine h_app Try.arrRId Try.underlying47 Try.infoRId rfl rfl _ _ rfl V.heap.size _ _ _ rfl hO10 _ (out.drop t) rfl (hTl.out.below hS10) (by simp <;> omega) (by have := hS10.size; omega) (fun v14 W14 hO14 hg14 => ?_) AllReadyH.nil
                have hS14 := hS10.grown hg14 hS10.size (fun j e => (hO10.lt j e).1)
                refine ⟨hS14, ?_⟩
                try simp only [Act.put, List.getElem_toArray, List.getElem_cons_zero, List.getElem_cons_succ, List.setIfInBounds_toArray, List.set_cons_zero, List.set_cons_succ]
                clear hO10 hg14 hS10
                have hS := hS14
                refine h_val (i := 15) (v := v14) rfl (by kernel_rfl) (by kernel_rfl) (by kernel_rfl) (fun _ _ _ h => h) rfl (fun _ _ => rfl) hS ?_
                try simp only [Act.put, List.getElem_toArray, List.getElem_cons_zero, List.getElem_cons_succ, List.setIfInBounds_toArray, List.set_cons_zero, List.set_cons_succ]
                refine wpAnyH_done (by kernel_rfl) ?_ _
                have hOe : Hid (W14.ownsRow w.heap.size 30 32 v14 (out.take t ++ x :: out.drop t).length (flat (out.take t ++ x :: out.drop t))) := Lib.hid (by
                  have h1 := own_base hB.out.size hO14
                  have e1 : (out.take t ++ x :: out.drop t).length = 0 + (out.take t).length + [x].length + (out.drop t).length := by simp <;> omega
                  have e2 : flat (out.take t ++ x :: out.drop t) = [] ++ flat (out.take t) ++ flat [x] ++ flat (out.drop t) := by simp [flat]
                  rw [e1, e2]
                  exact h1)
                have hBe := Lib.hid (hB.out.trans (hS14.mono hB.out.size))
                clear hO14 hS14 hS
                obtain ⟨A', cc', rfl⟩ := XK.own_slice hOe.out
                go_wp2
                go_roundg (n - (k + 1))
                case measure => omega
                case rel => exact ⟨k + 1, out.take t ++ x :: out.drop t, by omega, Nat.le_refl _, by simp, by simp <;> omega, hNew, hOe, hBe⟩
            · refine h_b1 Try.arrRId Try.underlying47 rfl rfl _ rfl x.1 hlx.out rfl (hS.alloc hS.size _) ?_ AllReadyH.nil
              try simp only [Act.put, List.getElem_toArray, List.getElem_cons_zero, List.getElem_cons_succ, List.setIfInBounds_toArray, List.set_cons_zero, List.set_cons_succ]
              have hS9 := hS.alloc hS.size (.cells (bv x.1).toArray 30)
              have hx90 := one_new V1 x 30
              have hx9b0 : V.heap.size < (V1.alloc (.cells (bv x.1).toArray 30)).heap.size := by simp <;> omega
              rw [← hsz] at hx90 ⊢
              clear hS hsz
              generalize V1.alloc (.cells (bv x.1).toArray 30) = W9 at hS9 hx90 hx9b0 ⊢
              refine wpAnyH_ready (rs := [0]) (by kernel_rfl) (by simp) ?_
              refine h_b0 Try.arrRId Try.underlying47 rfl rfl rfl (hS9.alloc hS9.size _) ?_ AllReadyH.nil
              try simp only [Act.put, List.getElem_toArray, List.getElem_cons_zero, List.getElem_cons_succ, List.setIfInBounds_toArray, List.set_cons_zero, List.set_cons_succ]
              have hS0 := hS9.alloc hS9.size (.cells #[] 30)
              have hO0 := own_base hS9.size (own_new W9 30)
              have hx9 := range_below ((Go.RowKit.Below.refl W9.heap.size W9).alloc (Nat.le_refl _) (.cells #[] 30)) hx9b0 hx90
              have hx9b : V.heap.size < (W9.alloc (.cells #[] 30)).heap.size := by simp <;> omega
              have hne : some V.heap.size ≠ Value.ownBlock (.slice (some ⟨W9.heap.size, 0, none⟩) 0 0) := by simp [Value.ownBlock]; omega
              clear hS9 hx90 hx9b0
              generalize W9.heap.size = n0 at hO0 hne ⊢
              generalize W9.alloc (.cells #[] 30) = W0 at hS0 hO0 hx9 hx9b ⊢
              refine wpAnyH_ready (rs := [4]) (by kernel_rfl) (by simp) ?_
              refine h_app Try.arrRId Try.underlying47 Try.infoRId rfl rfl _ _ rfl V.heap.size _ _ _ rfl hO0 _ (out.take t) rfl (hHd.out.below hS0) (by simp <;> omega) (by have := hS0.size; omega) (fun v4 W4 hO4 hg4 => ?_) AllReadyH.nil
              have hS4 := hS0.grown hg4 hS0.size (fun j e => (hO0.lt j e).1)
              refine ⟨hS4, ?_⟩
              try simp only [Act.put, List.getElem_toArray, List.getElem_cons_zero, List.getElem_cons_succ, List.setIfInBounds_toArray, List.set_cons_zero, List.set_cons_succ]
              have hx9' := range_grown hg4 hx9b hne hx9
              have hx9b' := Nat.lt_of_lt_of_le hx9b hg4.size
              clear hx9 hx9b hO0 hS0 hg4
              have hx9 := hx9'
              have hx9b := hx9b'
              clear hx9' hx9b'
              refine wpAnyH_ready (rs := [10]) (by kernel_rfl) (by simp) ?_
              refine h_app Try.arrRId Try.underlying47 Try.infoRId rfl rfl _ _ rfl V.heap.size _ _ _ rfl hO4 _ [x] rfl (one_ids hx9b hx9) (by simp <;> omega) (by have := hS4.size; omega) (fun v10 W10 hO10 hg10 => ?_) AllReadyH.nil
              have hS10 := hS4.grown hg10 hS4.size (fun j e => (hO4.lt j e).1)
              refine ⟨hS10, ?_⟩
              try simp only [Act.put, List.getElem_toArray, List.getElem_cons_zero, List.getElem_cons_succ, List.setIfInBounds_toArray, List.set_cons_zero, List.set_cons_succ]
              clear hO4 hg10 hx9 hx9b
              refine wpAnyH_ready (rs := [14]) (by kernel_rfl) (by simp) ?_
              refine h_app Try.arrRId Try.underlying47 Try.infoRId rfl rfl _ _ rfl V.heap.size _ _ _ rfl hO10 _ (out.drop t) rfl (hTl.out.below hS10) (by simp <;> omega) (by have := hS10.size; omega) (fun v14 W14 hO14 hg14 => ?_) AllReadyH.nil
              have hS14 := hS10.grown hg14 hS10.size (fun j e => (hO10.lt j e).1)
              refine ⟨hS14, ?_⟩
              try simp only [Act.put, List.getElem_toArray, List.getElem_cons_zero, List.getElem_cons_succ, List.setIfInBounds_toArray, List.set_cons_zero, List.set_cons_succ]
              clear hO10 hg14 hS10
              have hS := hS14
              refine h_val (i := 15) (v := v14) rfl (by kernel_rfl) (by kernel_rfl) (by kernel_rfl) (fun _ _ _ h => h) rfl (fun _ _ => rfl) hS ?_
              try simp only [Act.put, List.getElem_toArray, List.getElem_cons_zero, List.getElem_cons_succ, List.setIfInBounds_toArray, List.set_cons_zero, List.set_cons_succ]
              refine wpAnyH_done (by kernel_rfl) ?_ _
              have hOe : Hid (W14.ownsRow w.heap.size 30 32 v14 (out.take t ++ x :: out.drop t).length (flat (out.take t ++ x :: out.drop t))) := Lib.hid (by
                have h1 := own_base hB.out.size hO14
                have e1 : (out.take t ++ x :: out.drop t).length = 0 + (out.take t).length + [x].length + (out.drop t).length := by simp <;> omega
                have e2 : flat (out.take t ++ x :: out.drop t) = [] ++ flat (out.take t) ++ flat [x] ++ flat (out.drop t) := by simp [flat]
                rw [e1, e2]
                exact h1)
              have hBe := Lib.hid (hB.out.trans (hS14.mono hB.out.size))
              clear hO14 hS14 hS
              obtain ⟨A', cc', rfl⟩ := XK.own_slice hOe.out
              go_wp2
              go_roundg (n - (k + 1))
              case measure => omega
              case rel => exact ⟨k + 1, out.take t ++ x :: out.drop t, by omega, Nat.le_refl _, by simp, by simp <;> omega, hNew, hOe, hBe⟩
      · have hin : Hid (x ∈ out) := Lib.hid (by have := hHr.out; unfold memb at this; simpa using this)
        go_wp2
        go_roundg (n - (k + 1))
        case measure => omega
        case rel => exact ⟨k + 1, out, by omega, Nat.le_refl _, by simp, by omega, Lib.hid ⟨hA.out.1, fun z => by
          rw [htk.out, List.mem_append, ← hA.out.2 z, List.mem_singleton]
          constructor
          · exact .inl
          · rintro (h | h)
            · exact h
            · rw [h]; exact hin.out⟩, hO1, hB1⟩
    · obtain rfl : k = n := by omega
      have hfin : Hid (out = sset zs) := Lib.hid (asc_unique hA.out.1 (sset_asc zs) fun z => by
        rw [hA.out.2 z, List.take_of_length_le (by have := hHs.out.1; omega), mem_sset])
      obtain ⟨A, cc, rfl⟩ := XK.own_slice hO.out
      go_wp2
      go_ret
      refine ⟨_, rfl, ?_, hB.out⟩
      rw [← hfin.out]
      exact hO.out
end Go.Proofs
