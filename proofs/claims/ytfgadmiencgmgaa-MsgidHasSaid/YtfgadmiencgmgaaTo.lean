/- the law's own conversion of a list -/
import Derived.Test.YtfgadmiencgmgaaRHas
namespace Go.Proofs
open Go.RowKit Go.Shelf XK Go.Sort
set_option linter.unusedVariables false
theorem Try.infoRId : (Try.prog.info? 30).map (fun i => (i.zero, i.size, i.bytes)) = some (some (.agg (bv z32).toArray), 32, 32) := by kernel_rfl
set_option maxRecDepth 100000 in
set_option maxHeartbeats 2000000 in
theorem Try.to (zs : List I32) (hlim : zs.length ≤ 40) (sv : Value) (w : World) (hI : Ids w.heap.size w sv zs) :
    Calls Try.prog 22 #[sv] w fun e w' => ∃ v, e = .returned v ∧ w'.ownsRow w.heap.size 30 32 v zs.length (flat zs) ∧ Go.RowKit.Below w.heap.size w w' := by
  rcases hI with ⟨⟨a, cap, rfl⟩, rfl⟩ | ⟨b, off, cap, rfl, hb, hc⟩
  · go_enter Try.func22, Try.ntmps22
    go_wp2
    refine wp_loop_rounds 1 ?_
    rw [rounds_succ]
    go_wp2
    go_ret
    exact ⟨.slice none 0 0, rfl, World.ownsRow_nil _ _ _ _, Go.RowKit.Below.refl _ _⟩
  · have hC := Lib.hid hc
    clear hc
    go_enter Try.func22, Try.ntmps22
    go_wp2
    go_loopw [3, 4] (fun s3 s4 wr => ∃ k : Nat, k ≤ zs.length ∧ s4 = .int .i64 k ∧ Hid (wr.ownsRow w.heap.size 30 32 s3 k (flat (zs.take k))) ∧ Hid (Go.RowKit.Below w.heap.size w wr)) (fun _ s4 _ => zs.length - (intOf s4).toNat)
    case atStart => exact ⟨0, Nat.zero_le _, rfl, Lib.hid (by simpa [flat] using World.ownsRow_nil w w.heap.size 30 32), Lib.hid (Go.RowKit.Below.refl _ _)⟩
    case round =>
      obtain ⟨k, hk, rfl, hO, hB⟩ := hrel
      have i0 : (0 : Int) ≤ k := by omega
      have i2 : (k : Int).toNat = k := by omega
      by_cases hlt : k < zs.length
      · have i1 : (k : Int) < zs.length := by omega
        have i3 : decide ((k : Int) < zs.length) = true := by simp; omega
        have i4 : decide ((k : Int) < 40) = true := by simp; omega
        have hR := Lib.hid (range_below hB.out hb (hC.out k hlt))
        have htk : Hid (zs.take (k + 1) = zs.take k ++ [zs[k]]) := Lib.hid (List.take_append_getElem hlt).symm
        generalize zs[k] = y at hR htk
        have hly := Lib.hid y.2
        go_wp2_with (first
          | (refine x_ld Try.arrId rfl _ rfl _ _ rfl y.1 hly.out hR.out ?_)
          | (refine x_bsl Try.arrRId _ _ rfl rfl Try.underlying47 y.1 hly.out rfl ?_)
          | (at_builtin; refine x_app rfl _ _ 47 rfl w.heap.size 30 (.agg (bv z32).toArray) 32 32 Try.underlying47 Try.infoRId rfl (by decide) _ k _ rfl hO.out 1 (bv y.1) _ rfl rfl (by rw [bv_length, hly.out]) (bv_one y.1) (by omega) (by decide) hB.out.size ?_))
        intro v' w1 hown1 hg1 _ _
        obtain ⟨A, c, rfl⟩ := XK.own_slice hown1
        have hb1 : Hid (Go.RowKit.Below w.heap.size w w1) := Lib.hid (hB.out.grown hg1 hB.out.size (fun j e => (hO.out.lt j e).1))
        have hown2 : Hid (w1.ownsRow w.heap.size 30 32 (.slice A (k + 1) c) (k + 1) (flat (zs.take (k + 1)))) := Lib.hid (by
          rw [htk.out, flat_snoc]
          exact hown1)
        clear hown1 hg1 hB hO hR
        go_wp2
        go_roundw
        case rel => exact ⟨k + 1, by omega, by simp, hown2, hb1⟩
        case measure => simp [intOf]; omega
      · obtain rfl : k = zs.length := by omega
        have i3 : decide ((zs.length : Int) < zs.length) = false := by simp
        have hO2 := hO.out
        rw [List.take_length] at hO2
        obtain ⟨A, c, rfl⟩ := XK.own_slice hO2
        have hO3 := Lib.hid hO2
        clear hO2 hO
        go_wp2
        go_ret
        exact ⟨_, rfl, hO3.out, hB.out⟩
end Go.Proofs
