/- msgid.Shorten -/
import Derived.Test.YtfgadmiencgmgaaDoorShort
import Derived.Deep.QuietTactic
import Derived.BigQuiet
namespace Go.Proofs
open Go.RowKit Go.Shelf XK Go.Sort
set_option linter.unusedVariables false
set_option linter.unusedSimpArgs false
set_option maxRecDepth 100000 in
set_option maxHeartbeats 2000000 in
theorem Tryd.shorten (x : I32) (zs : List I32) (hz : zs.length ≤ 500) (sv : Value) (w : World) (hI : Ids w.heap.size w sv zs) :
    Calls Tryd.prog 9 #[.agg (bv x.1).toArray, sv] w fun e w' => e = .returned (shrtv (shrt x zs)) ∧ Go.RowKit.Below w.heap.size w w' := by
  have hlx := Lib.hid x.2
  have hI2 := Lib.hid hI
  have hlen := sset_length zs
  clear hI
  obtain ⟨r, hr⟩ : ∃ r, memb x zs = r := ⟨_, rfl⟩
  have hHr := Lib.hid hr
  clear hr
  go_enter Tryd.func9, Tryd.ntmps9
  go_wp2_with (first | (refine x_bx rfl _ rfl _ rfl ?_) | (refine x_ld Tryd.arrId rfl _ rfl w.heap.size 0 rfl x.1 hlx.out (one_new w x _) ?_))
  have hB0 : Go.RowKit.Below w.heap.size w (w.alloc (.cells (bv x.1).toArray 24)) := (Go.RowKit.Below.refl _ w).alloc (Nat.le_refl _) _
  have hX0 := one_new w x 24
  have hs0 : w.heap.size < (w.alloc (.cells (bv x.1).toArray 24)).heap.size := by simp
  have hI3 := (hI2.out.below hB0).mono (Nat.le_of_lt hs0)
  generalize w.alloc (.cells (bv x.1).toArray 24) = V at hB0 hX0 hs0 hI3 ⊢
  generalize hX : w.heap.size = X at hB0 hX0 hs0 ⊢
  have hHX := Lib.hid hX
  clear hX
  have hBx := Lib.hid hB0
  have hXx := Lib.hid hX0
  have hsx := Lib.hid hs0
  have hIx := Lib.hid hI3
  clear hB0 hX0 hs0 hI3 hI2
  refine (Tryd.contains zs (by omega) sv V hIx.out x).mono ?_
  rintro e W1 ⟨rfl, hb1⟩
  rw [hHr.out]
  have hV1 : Hid (Go.RowKit.Below V.heap.size V W1) := Lib.hid hb1
  clear hb1
  cases r
  · have hfin : Hid (shrt x zs = ([], 8)) := Lib.hid (by
      unfold shrt
      rw [if_neg (by have := hHr.out; unfold memb at this; simpa using this)])
    go_wp2
    go_ret2
    exact ⟨by rw [hfin.out]; rfl, by rw [hHX.out]; exact hBx.out.trans (hV1.out.mono (Nat.le_of_lt hsx.out))⟩
  · have hfin : Hid (shrt x zs = ((MsgPure.hex x.1).take (sn x (sset zs)), 0)) := Lib.hid (by
      unfold shrt
      rw [if_pos (by have := hHr.out; unfold memb at this; simpa using this)])
    have hX1 := Lib.hid (range_below hV1.out hsx.out hXx.out)
    go_wp2_with (refine x_ld Tryd.arrId rfl _ rfl X 0 rfl x.1 hlx.out hX1.out ?_)
    obtain ⟨D, hD⟩ : ∃ D : ByteArray, (⟨(MsgPure.hex x.1).toArray⟩ : ByteArray) = D := ⟨_, rfl⟩
    have hdg := Tryd.digits x.1 hlx.out W1
    rw [hD] at hdg
    have hHD := Lib.hid hD
    clear hD
    refine hdg.mono ?_
    rintro e W2 ⟨rfl, hb2⟩
    have hV2 := Lib.hid (hV1.out.trans (hb2.mono hV1.out.size))
    clear hdg hb2 hV1 hX1
    go_wp2_with fail
    refine (Tryd.set zs (by omega) sv W2 ((hIx.out.below hV2.out).mono hV2.out.size)).mono ?_
    rintro e W3 ⟨v, rfl, hO, hb3⟩
    have hV3 := Lib.hid (hV2.out.trans (hb3.mono hV2.out.size))
    clear hb3 hV2
    obtain ⟨a, n, c, rfl, hs, hc⟩ := hO.sl
    have hHs := Lib.hid hs
    have hn : n ≤ 500 := by have := hs.1; omega
    have hX3 := Lib.hid (range_below hV3.out hsx.out hXx.out)
    have hD64 : Hid (D.size = 64) := Lib.hid (by
      have := hex_len x
      rw [← this, ← hHD.out]; rfl)
    have hDg : Hid (∀ j (h : j < D.size), D[j] = (MsgPure.hex x.1).getD j 0) := Lib.hid (fun j h => by rw [XK.byte_at D j h, ← hHD.out])
    clear hO hs hIx
    go_wp2
    go_loopw [7, 21] (fun s7 s21 wr => ∃ k : Nat, k ≤ n ∧ s21 = .int .i64 k ∧ s7 = .int .i64 (sn x ((sset zs).take k) : Nat) ∧ Hid (Go.RowKit.Below W3.heap.size W3 wr)) (fun _ s21 _ => n - (intOf s21).toNat)
    case atStart => exact ⟨0, Nat.zero_le _, rfl, rfl, Lib.hid (Go.RowKit.Below.refl _ _)⟩
    case round =>
      obtain ⟨k, hk, rfl, rfl, hB⟩ := hrel
      have i0 : (0 : Int) ≤ k := by omega
      have i2 : (k : Int).toNat = k := by omega
      have hm4 := sn_ge x ((sset zs).take k)
      have hm64 := sn_64 x ((sset zs).take k)
      by_cases hlt : k < n
      · have i1 : (k : Int) < n := by omega
        have i3 : decide ((k : Int) < n) = true := by simp; omega
        obtain ⟨b, off, rfl, hb, hcz⟩ := hHs.out.2 (by omega)
        have kz : k < (sset zs).length := by have := hHs.out.1; omega
        have hR := Lib.hid (range_below hB.out hb (hcz k kz))
        have hsn := sn_snoc x ((sset zs).take k) (sset zs)[k]
        rw [List.take_append_getElem kz] at hsn
        clear hcz
        generalize (sset zs)[k] = z at hR hsn
        have hHsn := Lib.hid hsn
        clear hsn kz
        have hlz := Lib.hid z.2
        have hXw := Lib.hid (range_below hB.out (Nat.lt_of_lt_of_le hsx.out hV3.out.size) hX3.out)
        generalize sn x ((sset zs).take k) = m at hHsn hm4 hm64 ⊢
        by_cases hzx : z = x
        · have heq : Hid ((z.1 == x.1) = true) := Lib.hid (by rw [hzx]; simp)
          have hs1 : Hid (sn x ((sset zs).take (k + 1)) = m) := Lib.hid (by rw [hHsn.out, if_pos hzx])
          clear hzx hHsn
          go_wp2_with (first
            | (refine x_ld Tryd.arrId rfl _ rfl b (off + k * 32) rfl z.1 hlz.out hR.out ?_)
            | (refine x_al Tryd.arrId rfl rfl ?_)
            | (refine x_stn Tryd.arrId rfl _ _ rfl rfl z.1 rfl hlz.out _ _ rfl ?_)
            | (refine x_ld Tryd.arrId rfl _ rfl wr.heap.size 0 rfl z.1 hlz.out (one_new wr z _) ?_)
            | (refine x_ld Tryd.arrId rfl _ rfl X 0 rfl x.1 hlx.out (range_below ((Go.RowKit.Below.refl wr.heap.size wr).alloc (Nat.le_refl _) _) (by have := hsx.out; have := hV3.out.size; have := hB.out.size; omega) hXw.out) ?_)
            | (refine x_eqt Tryd.arrId rfl _ _ _ rfl z.1 x.1 rfl rfl hlz.out hlx.out true heq.out ?_))
          go_roundw
          case rel => exact ⟨k + 1, by omega, by simp, by rw [hs1.out], Lib.hid (hB.out.alloc hB.out.size _)⟩
          case measure => simp [intOf]; omega
        · have heq : Hid ((z.1 == x.1) = false) := Lib.hid (by rw [XK.beq_sub]; simpa using hzx)
          have hs1 : Hid (sn x ((sset zs).take (k + 1)) = max m (cpl x z + 1)) := Lib.hid (by rw [hHsn.out, if_neg hzx])
          have hcp := cpl_spec hzx
          clear hzx hHsn
          generalize cpl x z = L at hs1 hcp
          have hL : L < 64 := hcp.1
          have hHc := Lib.hid hcp
          clear hcp
          go_wp2_with (first
            | (refine x_ld Tryd.arrId rfl _ rfl b (off + k * 32) rfl z.1 hlz.out hR.out ?_)
            | (refine x_al Tryd.arrId rfl rfl ?_)
            | (refine x_stn Tryd.arrId rfl _ _ rfl rfl z.1 rfl hlz.out _ _ rfl ?_)
            | (refine x_ld Tryd.arrId rfl _ rfl wr.heap.size 0 rfl z.1 hlz.out (one_new wr z _) ?_)
            | (refine x_ld Tryd.arrId rfl _ rfl X 0 rfl x.1 hlx.out (range_below ((Go.RowKit.Below.refl wr.heap.size wr).alloc (Nat.le_refl _) _) (by have := hsx.out; have := hV3.out.size; have := hB.out.size; omega) hXw.out) ?_)
            | (refine x_eqt Tryd.arrId rfl _ _ _ rfl z.1 x.1 rfl rfl hlz.out hlx.out false heq.out ?_))
          have hBa := Lib.hid (hB.out.alloc hB.out.size (.cells (bv z.1).toArray 24))
          clear hB hXw hR
          generalize wr.alloc (.cells (bv z.1).toArray 24) = Wa at hBa ⊢
          obtain ⟨E, hE⟩ : ∃ E : ByteArray, (⟨(MsgPure.hex z.1).toArray⟩ : ByteArray) = E := ⟨_, rfl⟩
          have hdg := Tryd.digits z.1 hlz.out Wa
          rw [hE] at hdg
          have hE64 : Hid (E.size = 64) := Lib.hid (by
            have := hex_len z
            rw [← this, ← hE]; rfl)
          have hEg : Hid (∀ j (h : j < E.size), E[j] = (MsgPure.hex z.1).getD j 0) := Lib.hid (fun j h => by rw [XK.byte_at E j h, ← hE])
          clear hE
          refine hdg.mono ?_
          rintro e W5 ⟨rfl, hb5⟩
          have hB5 := Lib.hid (hBa.out.trans (hb5.mono hBa.out.size))
          clear hdg hb5 hBa
          obtain ⟨wo, hwo⟩ : ∃ wo : World, W5 = wo := ⟨_, rfl⟩
          subst hwo
          go_wp2
          go_loopw [11] (fun s11 w5 => ∃ t : Nat, t ≤ L ∧ s11 = .int .i64 t ∧ Hid (Go.RowKit.Below W3.heap.size W3 w5)) (fun s11 _ => L - (intOf s11).toNat)
          case atStart => exact ⟨0, Nat.zero_le _, rfl, hB5⟩
          case round =>
            clear hB5
            obtain ⟨t, ht, rfl, hB⟩ := hrel
            have j0 : (0 : Int) ≤ t := by omega
            have j2 : (t : Int).toNat = t := by omega
            have j3 : t < D.size := by have := hD64.out; omega
            have j4 : t < E.size := by have := hE64.out; omega
            have j5 : (t : Int) < D.size := by omega
            have j6 : (t : Int) < E.size := by omega
            have e1 := hDg.out t j3
            have e2 := hEg.out t j4
            rcases Nat.lt_or_eq_of_le ht with h | h
            · have e3 : (((E[t]).toNat : Int) == ((D[t]).toNat : Int)) = true := by rw [e1, e2, hHc.out.2.2 t h]; simp
              clear e1 e2
              go_wp2_with fail
              go_quiet (fail)
              go_wp2
              go_roundw
              case rel => exact ⟨t + 1, by omega, by simp, Lib.hid (XK.below_drewN hB.out _)⟩
              case measure => simp [intOf]; omega
            · subst h
              have e3 : (((E[t]).toNat : Int) == ((D[t]).toNat : Int)) = false := by
                rw [e1, e2, beq_eq_false_iff_ne]
                intro e
                exact hHc.out.2.1 (UInt8.toNat_inj.1 (by omega))
              clear e1 e2
              go_wp2_with fail
              go_quiet (fail)
              go_wp2
              go_roundw
              case rel => exact ⟨k + 1, by omega, by simp, by rw [hs1.out]; first | rfl | (simp; done) | (congr 1; omega) | (trace_state; sorry), Lib.hid (XK.below_drewN hB.out _)⟩
              case measure => simp [intOf]; omega
      · obtain rfl : k = n := by omega
        have i3 : decide ((k : Int) < k) = false := by simp
        have htk : Hid ((sset zs).take k = sset zs) := Lib.hid (List.take_of_length_le (by have := hHs.out.1; omega))
        rw [htk.out] at hm4 hm64 ⊢
        have hfin2 : Hid (Value.string (D.extract 0 (sn x (sset zs))) = .string ⟨((MsgPure.hex x.1).take (sn x (sset zs))).toArray⟩) := Lib.hid (by
          congr 1
          apply Go.WideShapes.bytes_inj
          rw [Lib.extract_data, ← hHD.out]
          simp)
        generalize sn x (sset zs) = m at hm4 hm64 hfin hfin2 ⊢
        have hm0 : (0 : Int) ≤ m := by omega
        have hmD : (m : Int) ≤ D.size := by have := hD64.out; omega
        have hmD2 : m ≤ D.size := by have := hD64.out; omega
        go_wp2
        go_ret2
        exact ⟨by rw [hfin.out, shrtv, ← hfin2.out]; rfl, by rw [hHX.out]; exact hBx.out.trans ((hV3.out.trans (hB.out.mono hV3.out.size)).mono (Nat.le_of_lt hsx.out))⟩
end Go.Proofs
