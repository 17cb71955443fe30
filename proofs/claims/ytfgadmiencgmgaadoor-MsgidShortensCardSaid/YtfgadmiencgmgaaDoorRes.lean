/- msgid.Resolve -/
import Derived.Test.YtfgadmiencgmgaaDoorDel
import Derived.Test.YtfgadmiencgmgaaDoorGA
namespace Go.Proofs
open Go.RowKit Go.Shelf XK Go.Sort
set_option linter.unusedVariables false
set_option linter.unusedSimpArgs false
namespace XK
def resOf (l : List I32) : List UInt8 × Int := match l with | [] => (z32, 8) | [x] => (x.1, 0) | _ => (z32, 7)
/-- what Resolve answers -/
def res (p : List UInt8) (zs : List I32) : List UInt8 × Int :=
  if p.length < 4 then (z32, 4) else if 64 < p.length then (z32, 5) else if ∀ c ∈ p, MsgPure.isD c = true then resOf ((sset zs).filter (pfx p)) else (z32, 6)
def resv (r : List UInt8 × Int) : Value := .tuple #[.agg (bv r.1).toArray, .int .i64 r.2]
theorem resOf_length (l : List I32) : (resOf l).1.length = 32 := by
  match l with
  | [] => rfl
  | [x] => exact x.2
  | _ :: _ :: _ => rfl
theorem res_length (p : List UInt8) (zs : List I32) : (res p zs).1.length = 32 := by
  unfold res
  split
  · rfl
  · split
    · rfl
    · split
      · exact resOf_length _
      · rfl
/-- two results, the first an array in memory -/
theorem results_arr2 {P : Program} {T e : TypeId} (A : Arr P T e) {fn : Func} {p t : Tmp} (h : fn.results = #[.cell p T, .tmp t]) (tmps : Array Value) (w : World) (g : Nat) (ty : TypeId) (l : List UInt8) (hl : l.length = 32)
    (hp : tmps.getD p undef = .pointer (some ⟨g, 0, none⟩)) (hg : w.heap[g]? = some (.cells (bv l).toArray ty (0, 0))) :
    (results fn tmps).run P w = .ok (.tuple #[.agg (bv l).toArray, tmps.getD t undef]) w := by
  have hp' : tmps[p]?.getD undef = .pointer (some ⟨g, 0, none⟩) := by simpa using hp
  simp [results, h, hp', asAddr, run_loadVar_row w g ty T (bv l).toArray (0, 0) _ hg A.ut rfl (by rw [A.st]; simp [bv_length, hl])]
end XK
set_option maxRecDepth 100000 in
set_option maxHeartbeats 2000000 in
theorem Tryd.resolve (p : ByteArray) (hp : p.size ≤ 9223372036854775807) (zs : List I32) (hz : zs.length ≤ 500) (sv : Value) (w : World) (hI : Ids w.heap.size w sv zs) :
    Calls Tryd.prog 5 #[.string p, sv] w fun e w' => e = .returned (resv (res p.data.toList zs)) ∧ Go.RowKit.Below w.heap.size w w' := by
  have hpl : p.data.toList.length = p.size := by rw [Array.length_toList]; rfl
  by_cases h4 : p.size < 4
  · have hr : Hid (res p.data.toList zs = (z32, 4)) := Lib.hid (by unfold res; rw [if_pos (by omega)])
    clear hpl hI
    go_enter Tryd.func5, Tryd.ntmps5
    go_wp2_with (first | (refine x_al Tryd.arrId rfl rfl ?_) | (refine x_bz Tryd.arrId rfl rfl ?_) | (refine x_st0 Tryd.arrId rfl _ _ rfl _ rfl z32 rfl rfl _ _ (Go.heap_alloc2_new w _ _) rfl ?_))
    refine bodyPost_ret (XK.results_arr2 Tryd.arrId rfl _ _ _ _ z32 rfl rfl (setRow_heap _ _ _ _ _ _ (Go.heap_alloc2_new w _ _))) rfl ⟨?_, below_setRow (((Go.RowKit.Below.refl _ _).alloc (Nat.le_refl _) _).alloc (by simp) _) (Nat.le_succ _) _⟩
    rw [hr.out]; rfl
  · by_cases h64 : 64 < p.size
    · have hr : Hid (res p.data.toList zs = (z32, 5)) := Lib.hid (by unfold res; rw [if_neg (by omega), if_pos (by omega)])
      clear hpl hI
      go_enter Tryd.func5, Tryd.ntmps5
      go_wp2_with (first | (refine x_al Tryd.arrId rfl rfl ?_) | (refine x_bz Tryd.arrId rfl rfl ?_) | (refine x_st0 Tryd.arrId rfl _ _ rfl _ rfl z32 rfl rfl _ _ (Go.heap_alloc2_new w _ _) rfl ?_))
      refine bodyPost_ret (XK.results_arr2 Tryd.arrId rfl _ _ _ _ z32 rfl rfl (setRow_heap _ _ _ _ _ _ (Go.heap_alloc2_new w _ _))) rfl ⟨?_, below_setRow (((Go.RowKit.Below.refl _ _).alloc (Nat.le_refl _) _).alloc (by simp) _) (Nat.le_succ _) _⟩
      rw [hr.out]; rfl
    · have htr := fun W => Tryd.trim p hp W
      have hB0 : Hid (Go.RowKit.Below w.heap.size w ((w.alloc (.cells #[.string p] 9)).alloc (.cells (bv z32).toArray 24))) := Lib.hid (((Go.RowKit.Below.refl _ _).alloc (Nat.le_refl _) _).alloc (by simp) _)
      have hr0 : Hid (((w.alloc (.cells #[.string p] 9)).alloc (.cells (bv z32).toArray 24)).heap[w.heap.size]? = some (.cells #[.string p] 9 (0, 0))) := Lib.hid (Go.heap_alloc2_old w _ _)
      have hr1 : Hid (((w.alloc (.cells #[.string p] 9)).alloc (.cells (bv z32).toArray 24)).heap[w.heap.size + 1]? = some (.cells (bv z32).toArray 24 (0, 0))) := Lib.hid (Go.heap_alloc2_new w _ _)
      have hs2 : Hid (((w.alloc (.cells #[.string p] 9)).alloc (.cells (bv z32).toArray 24)).heap.size = w.heap.size + 2) := Lib.hid (by simp)
      have hI2 := Lib.hid hI
      clear hI
      by_cases hd : ∀ c ∈ p.data.toList, MsgPure.isD c = true
      · have hr : Hid (res p.data.toList zs = resOf ((sset zs).filter (pfx p.data.toList))) := Lib.hid (by unfold res; rw [if_neg (by omega), if_neg (by omega), if_pos hd])
        rw [(trim_nil p.data.toList).2 hd] at htr
        clear hpl hd
        go_enter Tryd.func5, Tryd.ntmps5
        go_wp2_with (refine x_al Tryd.arrId rfl rfl ?_)
        refine (htr _).mono ?_
        rintro e W1 ⟨rfl, hb1⟩
        have hr01 : Hid (W1.heap[w.heap.size]? = some (.cells #[.string p] 9 (0, 0))) := Lib.hid ((hb1.block _ (by rw [hs2.out]; omega)).trans hr0.out)
        have hr11 : Hid (W1.heap[w.heap.size + 1]? = some (.cells (bv z32).toArray 24 (0, 0))) := Lib.hid ((hb1.block _ (by rw [hs2.out]; omega)).trans hr1.out)
        have hB1 : Hid (Go.RowKit.Below w.heap.size w W1) := Lib.hid (hB0.out.trans (hb1.mono hB0.out.size))
        have hs1 : Hid (w.heap.size + 2 ≤ W1.heap.size) := Lib.hid (by have := hb1.size; have := hs2.out; omega)
        clear hb1 hB0 hr0 hr1 hs2
        go_wp2_with fail
        refine (Tryd.set zs (by omega) sv W1 ((hI2.out.below hB1.out).mono hB1.out.size)).mono ?_
        rintro e W2 ⟨v, rfl, hO, hb2⟩
        have hlen := sset_length zs
        have hK := fun x W (h : Go.RowKit.Below W1.heap.size W2 W) => Tryd.resolveK p w.heap.size x W (by have := h.size; have := hb2.size; have := hs1.out; omega) (by
          rw [Go.cell_of_row W w.heap.size 0 #[.string p] 9 (0, 0) (((h.block _ (by have := hs1.out; omega)).trans (hb2.block _ (by have := hs1.out; omega))).trans hr01.out)]
          rfl)
        have hDel := Tryd.deleteFunc (fun x => !pfx p.data.toList x) ⟨w.heap.size, 0, none⟩ W1.heap.size (sset zs) (by omega) v W2 hb2.size hO hK
        have hHD := Lib.hid hDel
        have hb2' := Lib.hid hb2
        clear hK hO hDel hb2
        go_wp2_with fail
        refine hHD.out.mono ?_
        rintro e W3 ⟨v', rfl, hO3, hb3⟩
        have hr13 : Hid (W3.heap[w.heap.size + 1]? = some (.cells (bv z32).toArray 24 (0, 0))) := Lib.hid (((hb3.block _ (by have := hs1.out; omega)).trans (hb2'.out.block _ (by have := hs1.out; omega))).trans hr11.out)
        have hB3 : Hid (Go.RowKit.Below w.heap.size w W3) := Lib.hid (hB1.out.trans ((hb2'.out.trans hb3).mono hB1.out.size))
        have hff : (sset zs).filter (fun x => !!pfx p.data.toList x) = (sset zs).filter (pfx p.data.toList) := by simp
        rw [hff] at hO3
        clear hHD hb2' hb3 hr11 hr01 hff hB1 hs1
        generalize (sset zs).filter (pfx p.data.toList) = F at hO3 hr
        obtain ⟨a, n, c, rfl, hs, hc⟩ := hO3.sl
        have hHs := Lib.hid hs
        clear hO3 hs
        match F, hr, hHs with
        | [], hr, hHs =>
          obtain rfl : n = 0 := hHs.out.1
          go_wp2_with (first | (refine x_bz Tryd.arrId rfl rfl ?_) | (refine x_st0 Tryd.arrId rfl _ _ rfl _ rfl z32 rfl rfl _ _ hr13.out rfl ?_))
          refine bodyPost_ret (XK.results_arr2 Tryd.arrId rfl _ _ _ _ z32 rfl rfl (setRow_heap _ _ _ _ _ _ hr13.out)) rfl ⟨?_, below_setRow hB3.out (Nat.le_succ _) _⟩
          rw [hr.out]; rfl
        | [x], hr, hHs =>
          obtain rfl : n = 1 := hHs.out.1
          obtain ⟨b, off, rfl, hb, hcx⟩ := hHs.out.2 (by omega)
          have hR : Hid (W3.rangeAt b off (bv x.1)) := Lib.hid (by have := hcx 0 (by simp); rwa [Nat.zero_mul, Nat.add_zero] at this)
          clear hcx
          have hlx := Lib.hid x.2
          go_wp2_with (first | (refine x_ld Tryd.arrId rfl _ rfl _ _ rfl x.1 hlx.out hR.out ?_) | (refine x_st0 Tryd.arrId rfl _ _ rfl _ rfl x.1 rfl hlx.out _ _ hr13.out rfl ?_))
          refine bodyPost_ret (XK.results_arr2 Tryd.arrId rfl _ _ _ _ x.1 hlx.out rfl (setRow_heap _ _ _ _ _ _ hr13.out)) rfl ⟨?_, below_setRow hB3.out (Nat.le_succ _) _⟩
          rw [hr.out]; rfl
        | x :: y :: t, hr, hHs =>
          have hn2 : n = t.length + 2 := hHs.out.1
          have n0 : ((n : Int) == 0) = false := by rw [beq_eq_false_iff_ne]; omega
          have n1 : ((n : Int) == 1) = false := by rw [beq_eq_false_iff_ne]; omega
          clear hn2
          go_wp2_with (first | (refine x_bz Tryd.arrId rfl rfl ?_) | (refine x_st0 Tryd.arrId rfl _ _ rfl _ rfl z32 rfl rfl _ _ hr13.out rfl ?_))
          refine bodyPost_ret (XK.results_arr2 Tryd.arrId rfl _ _ _ _ z32 rfl rfl (setRow_heap _ _ _ _ _ _ hr13.out)) rfl ⟨?_, below_setRow hB3.out (Nat.le_succ _) _⟩
          rw [hr.out]; rfl
      · have hr : Hid (res p.data.toList zs = (z32, 6)) := Lib.hid (by unfold res; rw [if_neg (by omega), if_neg (by omega), if_neg hd])
        obtain ⟨u, ru, hu⟩ : ∃ u ru, Lib.trimS p.data.toList hexl = u :: ru := by
          cases h : Lib.trimS p.data.toList hexl with
          | nil => exact absurd ((trim_nil _).1 h) hd
          | cons u ru => exact ⟨u, ru, rfl⟩
        rw [hu] at htr
        clear hpl hd hu
        go_enter Tryd.func5, Tryd.ntmps5
        go_wp2_with (refine x_al Tryd.arrId rfl rfl ?_)
        refine (htr _).mono ?_
        rintro e W1 ⟨rfl, hb1⟩
        have hr11 : Hid (W1.heap[w.heap.size + 1]? = some (.cells (bv z32).toArray 24 (0, 0))) := Lib.hid ((hb1.block _ (by rw [hs2.out]; omega)).trans hr1.out)
        have hB1 : Hid (Go.RowKit.Below w.heap.size w W1) := Lib.hid (hB0.out.trans (hb1.mono hB0.out.size))
        clear hb1 hB0 hr0 hr1 hs2
        go_wp2_with (first | (refine x_bz Tryd.arrId rfl rfl ?_) | (refine x_st0 Tryd.arrId rfl _ _ rfl _ rfl z32 rfl rfl _ _ hr11.out rfl ?_))
        refine bodyPost_ret (XK.results_arr2 Tryd.arrId rfl _ _ _ _ z32 rfl rfl (setRow_heap _ _ _ _ _ _ hr11.out)) rfl ⟨?_, below_setRow hB1.out (Nat.le_succ _) _⟩
        rw [hr.out]; rfl
end Go.Proofs
