/- the reference's Shorten -/
import Derived.Test.YtfgadmiencgmgaaDoorShort
namespace Go.Proofs
open Go.RowKit Go.Shelf XK Go.Sort
set_option linter.unusedVariables false
set_option linter.unusedSimpArgs false
set_option maxRecDepth 100000 in
set_option maxHeartbeats 2000000 in
theorem Tryd.rShorten (x : I32) (zs : List I32) (hz : zs.length ≤ 500) (sv : Value) (w : World) (hI : Ids w.heap.size w sv zs) :
    Calls Tryd.prog 10 #[.agg (bv x.1).toArray, sv] w fun e w' => e = .returned (shrtv (shrt x zs)) ∧ Go.RowKit.Below w.heap.size w w' := by
  have hlx := Lib.hid x.2
  have hI2 := Lib.hid hI
  clear hI
  go_enter Tryd.func10, Tryd.ntmps10
  go_wp2_with (first | (refine x_bx rfl _ rfl _ rfl ?_) | (refine x_ld Tryd.arrRId rfl _ rfl w.heap.size 0 rfl x.1 hlx.out (one_new w x _) ?_))
  have hB0 : Go.RowKit.Below w.heap.size w (w.alloc (.cells (bv x.1).toArray 28)) := (Go.RowKit.Below.refl _ w).alloc (Nat.le_refl _) _
  have hX0 := one_new w x 28
  have hs0 : w.heap.size < (w.alloc (.cells (bv x.1).toArray 28)).heap.size := by simp
  have hI3 := (hI2.out.below hB0).mono (Nat.le_of_lt hs0)
  generalize w.alloc (.cells (bv x.1).toArray 28) = V at hB0 hX0 hs0 hI3 ⊢
  generalize hX : w.heap.size = X at hB0 hX0 hs0 ⊢
  have hHX := Lib.hid hX
  clear hX
  have hBx := Lib.hid hB0
  have hXx := Lib.hid hX0
  have hsx := Lib.hid hs0
  have hIx := Lib.hid hI3
  clear hB0 hX0 hs0 hI3 hI2
  obtain ⟨D, hD⟩ : ∃ D : ByteArray, (⟨(MsgPure.hex x.1).toArray⟩ : ByteArray) = D := ⟨_, rfl⟩
  have hdg := Tryd.rDigits x.1 hlx.out V
  rw [hD] at hdg
  have hD64 : D.size = 64 := by
    have := hex_len x
    rw [← this, ← hD]; rfl
  have hDl : D.data.toList = MsgPure.hex x.1 := by rw [← hD]
  have hext : Hid (∀ n, (D.extract 0 n).data.toList = (MsgPure.hex x.1).take n) := Lib.hid (fun n => by rw [Lib.extract_data, hDl]; simp)
  have hH64 := Lib.hid hD64
  clear hD hDl hD64
  refine hdg.mono ?_
  rintro e W1 ⟨rfl, hb1⟩
  have hV1 : Hid (Go.RowKit.Below V.heap.size V W1) := Lib.hid hb1
  clear hdg hb1
  go_wp2
  go_loopw [7] (fun s7 wr => ∃ n : Nat, 4 ≤ n ∧ n ≤ 65 ∧ s7 = .int .i64 n ∧ Hid (∀ j, 4 ≤ j → j < n → res ((MsgPure.hex x.1).take j) zs ≠ (x.1, 0)) ∧ Hid (Go.RowKit.Below V.heap.size V wr)) (fun s7 _ => 65 - (intOf s7).toNat)
  case atStart => exact ⟨4, by omega, by omega, rfl, Lib.hid (fun j h1 h2 => by omega), hV1⟩
  case round =>
    clear hV1
    obtain ⟨n, h4, h65, rfl, hpre, hB⟩ := hrel
    have i0 : (0 : Int) ≤ n := by omega
    have i2 : (n : Int).toNat = n := by omega
    by_cases hle : n ≤ 64
    · have i1 : (n : Int) ≤ 64 := by omega
      have i3 : decide ((n : Int) ≤ 64) = true := by simp; omega
      have i4 : (n : Int) ≤ D.size := by have := hH64.out; omega
      have i5 : n ≤ D.size := by have := hH64.out; omega
      have hq9 : (D.extract 0 n).size ≤ 9223372036854775807 := by rw [ByteArray.size_extract]; omega
      have hc1 := Tryd.rResolve (D.extract 0 n) hq9 zs (by omega) sv wr ((hIx.out.below hB.out).mono hB.out.size)
      rw [hext.out n] at hc1
      obtain ⟨l, c, hlc⟩ : ∃ l c, res ((MsgPure.hex x.1).take n) zs = (l, c) := ⟨_, _, rfl⟩
      have hl : Hid (l.length = 32) := Lib.hid (by have := res_length ((MsgPure.hex x.1).take n) zs; rwa [hlc] at this)
      rw [hlc] at hc1
      simp only [resv] at hc1
      have hd1 := Lib.hid hc1
      have hHlc := Lib.hid hlc
      clear hc1 hlc hq9
      go_wp2_with fail
      refine hd1.out.mono ?_
      rintro e W2 ⟨rfl, hb2⟩
      have hB2 := Lib.hid (hB.out.trans (hb2.mono hB.out.size))
      have hX2 := Lib.hid (range_below hB2.out hsx.out hXx.out)
      have hX3 := Lib.hid (range_below ((Go.RowKit.Below.refl W2.heap.size W2).alloc (Nat.le_refl _) (.cells (bv l).toArray 28)) (by have := hsx.out; have := hB2.out.size; omega) hX2.out)
      have hL3 : Hid ((W2.alloc (.cells (bv l).toArray 28)).rangeAt W2.heap.size 0 (bv l)) := Lib.hid (fun j v hj => by rw [Go.cell_of_row _ _ _ _ _ _ (Go.heap_alloc_new W2 _)]; simpa using hj)
      have hB3 := Lib.hid (hB2.out.alloc hB2.out.size (.cells (bv l).toArray 28))
      clear hd1 hb2 hB hX2
      have hne : Hid ((¬ c = 0 ∨ (l == x.1) = false) → ∀ j, 4 ≤ j → j < n + 1 → res ((MsgPure.hex x.1).take j) zs ≠ (x.1, 0)) := Lib.hid (fun hc j h1 h2 => by
        rcases Nat.lt_or_eq_of_le (Nat.lt_succ_iff.1 h2) with h | h
        · exact hpre.out j h1 h
        · rw [h, hHlc.out]
          intro e
          simp only [Prod.mk.injEq] at e
          rcases hc with hc | hc
          · exact hc e.2
          · rw [e.1] at hc; simp at hc)
      by_cases hc0 : c = 0
      · have hHc := Lib.hid hc0
        have c1 : (c == 0) = true := by rw [hc0]; rfl
        clear hc0
        obtain ⟨bq, hbq⟩ : ∃ bq, (l == x.1) = bq := ⟨_, rfl⟩
        have hHq := Lib.hid hbq
        clear hbq
        cases bq
        · go_wp2_with (first
            | (refine x_al Tryd.arrRId rfl rfl ?_)
            | (refine x_stn Tryd.arrRId rfl _ _ rfl rfl l rfl hl.out _ _ rfl ?_)
            | (refine x_ld Tryd.arrRId rfl _ rfl W2.heap.size 0 rfl l hl.out hL3.out ?_)
            | (refine x_ld Tryd.arrRId rfl _ rfl X 0 rfl x.1 hlx.out hX3.out ?_)
            | (refine x_eqt Tryd.arrRId rfl _ _ _ rfl l x.1 rfl rfl hl.out hlx.out false hHq.out ?_))
          go_roundw
          case rel => exact ⟨n + 1, by omega, by omega, by simp, Lib.hid (hne.out (.inr hHq.out)), hB3⟩
          case measure => simp [intOf]; omega
        · have hfin : Hid (shrt x zs = ((MsgPure.hex x.1).take n, 0)) := Lib.hid (shrt_first h4 hle (by rw [hHlc.out, hHc.out, beq_iff_eq.1 hHq.out]) hpre.out)
          have hstr : Hid (Value.string (D.extract 0 n) = .string ⟨((MsgPure.hex x.1).take n).toArray⟩) := Lib.hid (by
            congr 1
            apply Go.WideShapes.bytes_inj
            rw [hext.out n])
          go_wp2_with (first
            | (refine x_al Tryd.arrRId rfl rfl ?_)
            | (refine x_stn Tryd.arrRId rfl _ _ rfl rfl l rfl hl.out _ _ rfl ?_)
            | (refine x_ld Tryd.arrRId rfl _ rfl W2.heap.size 0 rfl l hl.out hL3.out ?_)
            | (refine x_ld Tryd.arrRId rfl _ rfl X 0 rfl x.1 hlx.out hX3.out ?_)
            | (refine x_eqt Tryd.arrRId rfl _ _ _ rfl l x.1 rfl rfl hl.out hlx.out true hHq.out ?_))
          go_ret2
          exact ⟨by rw [hfin.out, shrtv, ← hstr.out]; rfl, by rw [hHX.out]; exact hBx.out.trans (hB3.out.mono (Nat.le_of_lt hsx.out))⟩
      · have c1 : (c == 0) = false := by rw [beq_eq_false_iff_ne]; exact hc0
        have hne2 := Lib.hid (hne.out (.inl hc0))
        clear hc0
        go_wp2_with (first
          | (refine x_al Tryd.arrRId rfl rfl ?_)
          | (refine x_stn Tryd.arrRId rfl _ _ rfl rfl l rfl hl.out _ _ rfl ?_))
        go_roundw
        case rel => exact ⟨n + 1, by omega, by omega, by simp, hne2, hB3⟩
        case measure => simp [intOf]; omega
    · obtain rfl : n = 65 := by omega
      have hfin : Hid (shrt x zs = ([], 8)) := Lib.hid (shrt_none hpre.out)
      go_wp2
      go_ret2
      exact ⟨by rw [hfin.out]; rfl, by rw [hHX.out]; exact hBx.out.trans (hB.out.mono (Nat.le_of_lt hsx.out))⟩
end Go.Proofs
