/- the reference's Pick -/
import Derived.Test.YtfgadmiencgmgaaRSet
namespace Go.Proofs
open Go.RowKit Go.Shelf XK Go.Sort
set_option linter.unusedVariables false
set_option linter.unusedSimpArgs false
namespace XK
def pck (zs ys : List I32) (both : Bool) : List I32 := zs.filter fun x => memb x ys == both
theorem pck_length (zs ys : List I32) (both : Bool) : (pck zs ys both).length ≤ zs.length := List.length_filter_le _ _
theorem pck_snoc (zs ys : List I32) (both : Bool) (x : I32) : pck (zs ++ [x]) ys both = pck zs ys both ++ (if (memb x ys == both) = true then [x] else []) := by
  unfold pck
  rw [List.filter_append, List.filter_cons, List.filter_nil]
end XK
set_option maxRecDepth 100000 in
set_option maxHeartbeats 2000000 in
theorem Try.rPick (zs ys : List I32) (hz : zs.length ≤ 500) (hy : ys.length ≤ 500) (both : Bool) (sv tv : Value) (w : World) (hI : Ids w.heap.size w sv zs) (hJ : Ids w.heap.size w tv ys) :
    Calls Try.prog 29 #[sv, tv, .bool both] w fun e w' => ∃ v, e = .returned v ∧ w'.ownsRow w.heap.size 30 32 v (sset (pck zs ys both)).length (flat (sset (pck zs ys both))) ∧ Go.RowKit.Below w.heap.size w w' := by
  obtain ⟨a, n, c, rfl, hs⟩ := SL.of hI
  have hHs := Lib.hid hs
  have hHJ := Lib.hid hJ
  have hn : n ≤ 500 := by have := hs.1; omega
  clear hI hs hJ
  go_enter Try.func29, Try.ntmps29
  go_wp2
  go_loopw [7, 8] (fun s7 s8 wr => ∃ k : Nat, k ≤ n ∧ s8 = .int .i64 k ∧ Hid ((pck (zs.take k) ys both).length ≤ k) ∧ Hid (wr.ownsRow w.heap.size 30 32 s7 (pck (zs.take k) ys both).length (flat (pck (zs.take k) ys both))) ∧ Hid (Go.RowKit.Below w.heap.size w wr)) (fun _ s8 _ => n - (intOf s8).toNat)
  case atStart => exact ⟨0, Nat.zero_le _, rfl, Lib.hid (by simp [pck]), Lib.hid (by simpa [flat, pck] using World.ownsRow_nil w w.heap.size 30 32), Lib.hid (Go.RowKit.Below.refl _ _)⟩
  case round =>
    obtain ⟨k, hk, rfl, hL, hO, hB⟩ := hrel
    have i0 : (0 : Int) ≤ k := by omega
    have i2 : (k : Int).toNat = k := by omega
    by_cases hlt : k < n
    · have i1 : (k : Int) < n := by omega
      have i3 : decide ((k : Int) < n) = true := by simp; omega
      obtain ⟨b, off, rfl, hb, hc⟩ := hHs.out.2 (by omega)
      have kz : k < zs.length := by have := hHs.out.1; omega
      have hR0 := Lib.hid (hc k kz)
      have hps := pck_snoc (zs.take k) ys both zs[k]
      rw [List.take_append_getElem kz] at hps
      clear hc
      generalize zs[k] = x at hR0 hps
      have hlx := Lib.hid x.2
      have hHJ1 := Lib.hid ((hHJ.out.below hB.out).mono hB.out.size)
      have hR := Lib.hid (range_below hB.out hb hR0.out)
      obtain ⟨r, hr⟩ : ∃ r, memb x ys = r := ⟨_, rfl⟩
      rw [hr] at hps
      have hHr := Lib.hid hr
      have hHps := Lib.hid hps
      clear hr kz hps
      go_wp2_with (refine x_ld Try.arrRId rfl _ rfl _ _ rfl x.1 hlx.out hR.out ?_)
      refine (Try.rHas ys (by omega) _ _ hHJ1.out x).mono ?_
      rintro e W1 ⟨rfl, hb1⟩
      rw [hHr.out]
      have hR1 := Lib.hid (range_below (hB.out.trans (hb1.mono hB.out.size)) hb hR0.out)
      have hO1 := Lib.hid (XK.own_below hO.out hb1)
      have hB1 := Lib.hid (hB.out.trans (hb1.mono hB.out.size))
      clear hO hB hR hHJ1 hb1
      obtain ⟨q, hq⟩ : ∃ q, (r == both) = q := ⟨_, rfl⟩
      have hHps' := hHps.out
      rw [hq] at hHps'
      replace hHps := Lib.hid hHps'
      clear hHps'
      have hlk : (pck (zs.take k) ys both).length ≤ 500 := by have := hL.out; omega
      cases q
      · have hnx : Hid (pck (zs.take (k + 1)) ys both = pck (zs.take k) ys both) := Lib.hid (by rw [hHps.out]; simp)
        obtain ⟨A, cc, rfl⟩ := XK.own_slice hO1.out
        go_wp2_with fail
        go_roundw
        case rel => exact ⟨k + 1, by omega, by simp, Lib.hid (by rw [hnx.out]; exact Nat.le_succ_of_le hL.out), Lib.hid (by rw [hnx.out]; exact hO1.out), hB1⟩
        case measure => simp [intOf]; omega
      · have hnx : Hid (pck (zs.take (k + 1)) ys both = pck (zs.take k) ys both ++ [x]) := Lib.hid (by rw [hHps.out]; simp)
        obtain ⟨A, cc, rfl⟩ := XK.own_slice hO1.out
        generalize pck (zs.take k) ys both = out at hnx hO1 hlk hL
        go_wp2_with (first
          | (refine x_ld Try.arrRId rfl _ rfl _ _ rfl x.1 hlx.out hR1.out ?_)
          | (refine x_bsl Try.arrRId _ _ rfl rfl Try.underlying47 x.1 hlx.out rfl ?_)
          | (at_builtin; refine x_app rfl _ _ 47 rfl w.heap.size 30 (.agg (bv z32).toArray) 32 32 Try.underlying47 Try.infoRId rfl (by decide) _ out.length _ rfl hO1.out 1 (bv x.1) _ rfl rfl (by rw [bv_length, hlx.out]) (bv_one x.1) (by omega) (by decide) hB1.out.size ?_))
        intro v' w1 hown1 hg1 _ _
        have hb2 : Hid (Go.RowKit.Below w.heap.size w w1) := Lib.hid (hB1.out.grown hg1 hB1.out.size (fun j e => (hO1.out.lt j e).1))
        have hown2 : Hid (w1.ownsRow w.heap.size 30 32 v' (out ++ [x]).length (flat (out ++ [x]))) := Lib.hid (by
          rw [flat_snoc, List.length_append]
          exact hown1)
        clear hown1 hg1 hB1 hO1 hR1
        obtain ⟨A', cc', rfl⟩ := XK.own_slice hown2.out
        go_wp2
        go_roundw
        case rel => exact ⟨k + 1, by omega, by simp, Lib.hid (by rw [hnx.out, List.length_append]; exact Nat.succ_le_succ hL.out), by rw [hnx.out]; exact hown2, hb2⟩
        case measure => simp [intOf]; omega
    · obtain rfl : k = n := by omega
      have i3 : decide ((k : Int) < k) = false := by simp
      have htk : Hid (zs.take k = zs) := Lib.hid (List.take_of_length_le (by have := hHs.out.1; omega))
      rw [htk.out] at hO hL
      obtain ⟨A, cc, rfl⟩ := XK.own_slice hO.out
      go_wp2_with fail
      refine (Try.rSet (pck zs ys both) (by have := hL.out; omega) _ _ (ids_own hO.out)).mono ?_
      rintro e W1 ⟨v, rfl, hN, hb1⟩
      obtain ⟨A', cc', rfl⟩ := XK.own_slice hN
      have hN2 := Lib.hid (own_base hB.out.size hN)
      have hB2 := Lib.hid (hB.out.trans (hb1.mono hB.out.size))
      clear hN hb1 hO hB
      go_wp2
      go_ret
      exact ⟨_, rfl, hN2.out, hB2.out⟩
end Go.Proofs
