/- the reference's Has -/
import Derived.Test.YtfgadmiencgmgaaHas
namespace Go.Proofs
open Go.RowKit Go.Shelf XK Go.Sort
set_option linter.unusedVariables false
set_option maxRecDepth 100000 in
set_option maxHeartbeats 2000000 in
theorem Try.rHas (zs : List I32) (hlim : zs.length ≤ 1000) (sv : Value) (w : World) (hI : Ids w.heap.size w sv zs) (x : I32) :
    Calls Try.prog 21 #[sv, .agg (bv x.1).toArray] w fun e w' => e = .returned (.bool (memb x zs)) ∧ Go.RowKit.Below w.heap.size w w' := by
  rcases hI with ⟨⟨a, cap, rfl⟩, rfl⟩ | ⟨b, off, cap, rfl, hb, hc⟩
  · go_enter Try.func21, Try.ntmps21
    go_wp2_with (refine x_bx rfl _ rfl _ rfl ?_)
    refine wp_loop_rounds 1 ?_
    rw [rounds_succ]
    go_wp2
    go_ret
    exact ⟨rfl, (Go.RowKit.Below.refl _ w).alloc (Nat.le_refl _) _⟩
  · have hW0 : Hid (Go.RowKit.Below w.heap.size w (w.alloc (.cells (bv x.1).toArray 30))) := Lib.hid ((Go.RowKit.Below.refl _ w).alloc (Nat.le_refl _) _)
    have hX0 : Hid ((w.alloc (.cells (bv x.1).toArray 30)).rangeAt w.heap.size 0 (bv x.1)) := Lib.hid (fun j v hj => by rw [Go.cell_of_row _ _ _ _ _ _ (Go.heap_alloc_new w _)]; simpa using hj)
    have hs0 : Hid (w.heap.size < (w.alloc (.cells (bv x.1).toArray 30)).heap.size) := Lib.hid (by simp)
    have hC := Lib.hid hc
    have hlx := Lib.hid x.2
    clear hc
    go_enter Try.func21, Try.ntmps21
    go_wp2_with (refine x_bx rfl _ rfl _ rfl ?_)
    generalize w.alloc (.cells (bv x.1).toArray 30) = W0 at hW0 hX0 hs0 ⊢
    generalize hX : w.heap.size = X at hb hW0 hX0 hs0 ⊢
    have hHX := Lib.hid hX
    clear hX
    go_loopw [5] (fun s5 wr => ∃ k : Nat, k ≤ zs.length ∧ s5 = .int .i64 k ∧ Hid (x ∉ zs.take k) ∧ Hid (Go.RowKit.Below W0.heap.size W0 wr)) (fun s5 _ => zs.length - (intOf s5).toNat)
    case atStart => exact ⟨0, Nat.zero_le _, rfl, Lib.hid (by simp), Lib.hid (Go.RowKit.Below.refl _ _)⟩
    case round =>
      obtain ⟨k, hk, rfl, hno, hB⟩ := hrel
      have i0 : (0 : Int) ≤ k := by omega
      have i2 : (k : Int).toNat = k := by omega
      by_cases hlt : k < zs.length
      · have i1 : (k : Int) < zs.length := by omega
        have hw0 : Hid (Go.RowKit.Below X w wr) := Lib.hid (hW0.out.trans (hB.out.mono (by have := hs0.out; omega)))
        have hR := Lib.hid (range_below hw0.out hb (hC.out k hlt))
        have hRx := Lib.hid (range_below hB.out hs0.out hX0.out)
        have htk : Hid (zs.take (k + 1) = zs.take k ++ [zs[k]]) := Lib.hid (List.take_append_getElem hlt).symm
        have hmem : Hid (zs[k] ∈ zs) := Lib.hid (List.getElem_mem hlt)
        generalize zs[k] = y at hR htk hmem
        have hly := Lib.hid y.2
        obtain ⟨bq, hbq⟩ : ∃ bq, (y.1 == x.1) = bq := ⟨_, rfl⟩
        have hBq := Lib.hid hbq
        clear hbq
        obtain ⟨C2, hD1, hDn⟩ := XK.classD wr
        have hD1' := Lib.hid hD1
        have hDn' := Lib.hid hDn
        clear hD1 hDn
        go_wp2_with fail
        refine q_region C2 (by kernel_rfl) (by kernel_rfl) hD1'.out ?_
        repeat (first
          | (refine q_ld Try.arrRId _ rfl rfl b (off + k * 32) rfl y.1 hly.out (fun W hW => by obtain ⟨n, rfl⟩ := hDn'.out W hW; exact hR.out) ?_)
          | (refine q_ld Try.arrRId _ rfl rfl X 0 rfl x.1 hlx.out (fun W hW => by obtain ⟨n, rfl⟩ := hDn'.out W hW; exact hRx.out) ?_)
          | (refine q_eqt Try.arrRId _ _ _ rfl rfl y.1 x.1 rfl rfl hly.out hlx.out bq hBq.out ?_)
          | (refine wpQuiet_step (fun K hK => ?_)
             go_simp
             first
             | (refine hK _ ?_; clear hK K)
             | (apply Exists.intro
                refine ⟨fun W hW => ?_, hK _ ?_⟩
                first
                | exact rfl
                | exact ⟨rfl, rfl⟩
                clear hK K)))
        refine wpQuiet_nil ?_
        intro V2 hV2
        obtain ⟨n2, rfl⟩ := hDn'.out V2 hV2
        have hBm := Lib.hid (XK.below_drewN hB.out n2)
        have hwm := Lib.hid (XK.below_drewN hw0.out n2)
        clear hV2 hB hw0 hD1' hDn' hR hRx
        generalize wr.drewN n2 = V' at hBm hwm ⊢
        cases bq
        · go_wp2
          go_roundw
          case rel =>
            refine ⟨k + 1, by omega, by simp, Lib.hid ?_, hBm⟩
            rw [htk.out]
            have h1 := hBq.out
            rw [XK.beq_sub] at h1
            have h2 : y ≠ x := by simpa using h1
            intro h
            rcases List.mem_append.1 h with h | h
            · exact hno.out h
            · exact h2 (List.mem_singleton.1 h).symm
          case measure => simp [intOf]; omega
        · go_wp2
          go_ret
          refine ⟨?_, by rw [hHX.out]; exact hwm.out⟩
          have h1 := hBq.out
          rw [XK.beq_sub] at h1
          have h2 : y = x := by simpa using h1
          have h3 : memb x zs = true := by unfold memb; rw [decide_eq_true_eq, ← h2]; exact hmem.out
          rw [h3]
          rfl
      · obtain rfl : k = zs.length := by omega
        have h3 : Hid (memb x zs = false) := Lib.hid (by
          have := hno.out
          rw [List.take_length] at this
          unfold memb
          exact decide_eq_false this)
        go_wp2
        go_ret
        exact ⟨by rw [h3.out]; rfl, by rw [hHX.out]; exact hW0.out.trans (hB.out.mono (by have := hs0.out; omega))⟩
end Go.Proofs
