/- the law MsgidResolves: for every text and list it answers true; it leaves all that was there as it was -/
import Derived.Test.YtfgadmiencgmgaaDoorRRes
import Derived.Test.YtfgadmiencgmgaaDoorGB
import Derived.Test.YtfgadmiencgmgaaDoorKnown
namespace Go.Proofs
open Go.RowKit Go.Shelf XK Go.Sort
set_option linter.unusedVariables false
set_option linter.unusedSimpArgs false
namespace XK
/-- a list cut to k -/
theorem Ids.cut {w : World} {zs : List I32} {a : Option Addr} {n cap : Nat} (k : Nat) (hnz : n = zs.length) (hI : Ids w.heap.size w (.slice a n cap) zs) {m : Nat} (hm : (min (n : Int) k).toNat = m) :
    Ids w.heap.size w (.slice a m cap) (zs.take k) ∧ (zs.take k).length ≤ k := by
  have hml : (zs.take k).length = m := by rw [List.length_take, ← hnz, ← hm]; omega
  refine ⟨?_, by rw [List.length_take]; omega⟩
  rcases hI with ⟨⟨a', cap', he⟩, rfl⟩ | ⟨b, off, cap', he, hb, hc⟩
  · cases he
    exact .inl ⟨⟨a, cap, by rw [← hml]; simp⟩, by simp⟩
  · cases he
    rw [← hml]
    exact Ids.take hb hc k
theorem row_range {W : World} {b : Nat} {l : List UInt8} {T : TypeId} (h : W.heap[b]? = some (.cells (bv l).toArray T (0, 0))) : W.rangeAt b 0 (bv l) := fun j v hj => by
  rw [Go.cell_of_row _ _ _ _ _ _ h]; simpa using hj
end XK
set_option maxRecDepth 100000 in
set_option maxHeartbeats 2000000 in
theorem Tryd.msgidResolves (p : ByteArray) (hp : p.size ≤ 9223372036854775807) (zs : List I32) (a : Option Addr) (n cap : Nat) (hnz : n = zs.length) (hcap : n ≤ cap) (w : World) (hI : Ids w.heap.size w (.slice a n cap) zs) :
    Calls Tryd.prog 3 #[.string p, .slice a n cap] w fun e w' => e = .returned (.bool true) ∧ Go.RowKit.Below w.heap.size w w' := by
  obtain ⟨m, hm⟩ : ∃ m, (min (n : Int) 40).toNat = m := ⟨_, rfl⟩
  obtain ⟨hJ, hL⟩ := Ids.cut 40 hnz hI hm
  have s0 : (0 : Int) ≤ min (n : Int) 40 := by omega
  have s1 : min (n : Int) 40 ≤ cap := by omega
  have s2 : min (n : Int) 40 ≤ n := by omega
  generalize zs.take 40 = ys at hJ hL
  have hK := Lib.hid hJ
  obtain ⟨k, hk⟩ : ∃ k, (min (p.size : Int) 80).toNat = k := ⟨_, rfl⟩
  have u0 : (0 : Int) ≤ min (p.size : Int) 80 := by omega
  have u1 : min (p.size : Int) 80 ≤ p.size := by omega
  have hk80 : k ≤ 80 := by omega
  have hq9 : (p.extract 0 k).size ≤ 9223372036854775807 := by rw [ByteArray.size_extract]; omega
  have hc1 := fun W => Tryd.resolve (p.extract 0 k) hq9 ys (by omega) (.slice a m cap) W
  have hc2 := fun sv W => Tryd.rResolve (p.extract 0 k) hq9 ys (by omega) sv W
  obtain ⟨l, c, hlc⟩ : ∃ l c, res (p.extract 0 k).data.toList ys = (l, c) := ⟨_, _, rfl⟩
  have hl : Hid (l.length = 32) := Lib.hid (by have := res_length (p.extract 0 k).data.toList ys; rwa [hlc] at this)
  rw [hlc] at hc1 hc2
  simp only [resv] at hc1 hc2
  have hd1 := Lib.hid hc1
  have hd2 := Lib.hid hc2
  have c0 := Tryd.known
  clear hI hJ hnz hc1 hc2 hlc hq9
  go_enter Tryd.func3, Tryd.ntmps3
  go_wp2_with fail
  refine (hd1.out _ hK.out).mono ?_
  rintro e W1 ⟨rfl, hb1⟩
  go_wp2_with (first | (refine x_al Tryd.arrId rfl rfl ?_) | (refine x_stn Tryd.arrId rfl _ _ rfl rfl l rfl hl.out _ _ rfl ?_))
  have hV : Go.RowKit.Below w.heap.size w (W1.alloc (.cells (bv l).toArray 24)) := hb1.alloc hb1.size _
  have hx5 := Go.heap_alloc_new W1 (.cells (bv l).toArray 24 (0, 0))
  have hs5 : W1.heap.size < (W1.alloc (.cells (bv l).toArray 24)).heap.size := by simp
  clear hb1
  generalize W1.alloc (.cells (bv l).toArray 24) = V1 at hV hx5 hs5 ⊢
  generalize W1.heap.size = b5 at hx5 hs5 ⊢
  refine (Tryd.to ys hL _ _ ((hK.out.below hV).mono hV.size)).mono ?_
  rintro e W2 ⟨v2, rfl, hO, hb2⟩
  have hIv := Lib.hid (ids_own hO)
  have hx5' := (hb2.block _ hs5).trans hx5
  have hs5' := Nat.lt_of_lt_of_le hs5 hb2.size
  have hV2 := hV.trans (hb2.mono hV.size)
  clear hx5 hs5 hV hO hb2
  have hX := Lib.hid hx5'
  have hV3 := Lib.hid hV2
  clear hx5' hV2
  go_wp2_with fail
  refine (hd2.out _ _ hIv.out).mono ?_
  rintro e W3 ⟨rfl, hb3⟩
  have hX3 := Lib.hid ((hb3.block _ hs5').trans hX.out)
  have hs3 := Nat.lt_of_lt_of_le hs5' hb3.size
  have hV4 := Lib.hid (hV3.out.trans (hb3.mono hV3.out.size))
  clear hX hs5' hV3 hb3 hIv
  go_wp2_with (first | (refine x_al Tryd.arrRId rfl rfl ?_) | (refine x_stn Tryd.arrRId rfl _ _ rfl rfl l rfl hl.out _ _ rfl ?_))
  have hV5 := hV4.out.alloc hV4.out.size (.cells (bv l).toArray 28)
  have hx7 := Go.heap_alloc_new W3 (.cells (bv l).toArray 28 (0, 0))
  have hs7 : W3.heap.size < (W3.alloc (.cells (bv l).toArray 28)).heap.size := by simp
  have hx5 := (Go.RowKit.Below.heap_alloc W3 (.cells (bv l).toArray 28) b5 hs3).trans hX3.out
  have hs5 : b5 < (W3.alloc (.cells (bv l).toArray 28)).heap.size := by simp; omega
  clear hV4 hs3 hX3
  generalize W3.alloc (.cells (bv l).toArray 28) = V5 at hV5 hx7 hs7 hx5 hs5 ⊢
  generalize W3.heap.size = b7 at hx7 hs7 ⊢
  refine (c0 _).mono ?_
  rintro e W6 ⟨rfl, hb6⟩
  have hR5 := Lib.hid (row_range ((hb6.block _ hs5).trans hx5))
  have hR7 := Lib.hid (row_range ((hb6.block _ hs7).trans hx7))
  have hV6 := Lib.hid (hV5.trans (hb6.mono hV5.size))
  clear hx5 hs5 hx7 hs7 hV5 hb6
  go_wp2_with (first
    | (refine x_ld Tryd.arrId rfl _ rfl b5 0 rfl l hl.out hR5.out ?_)
    | (refine x_ld Tryd.arrRId rfl _ rfl b7 0 rfl l hl.out hR7.out ?_)
    | (refine x_eqt Tryd.arrRId rfl _ _ _ rfl l l rfl rfl hl.out hl.out true (by simp) ?_))
  go_ret
  exact ⟨rfl, hV6.out⟩
end Go.Proofs
