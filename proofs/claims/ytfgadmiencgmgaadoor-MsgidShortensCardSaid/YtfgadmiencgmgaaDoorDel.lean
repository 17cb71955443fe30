/- slices.IndexFunc and slices.DeleteFunc at lists of identities, with the predicate of msgid.Resolve; the predicate -/
import Derived.Test.YtfgadmiencgmgaaDoorTrim
import Derived.Test.YtfgadmiencgmgaaDoorGB
namespace Go.Proofs
open Go.RowKit Go.Shelf XK Go.Sort
set_option linter.unusedVariables false
set_option linter.unusedSimpArgs false
namespace XK
/-- the digits of an identity begin with p -/
def pfx (p : List UInt8) (x : I32) : Bool := Lib.hasPrefix (MsgPure.hex x.1) p
theorem q_lds {P : Program} {T : TypeId} {ops : Array Oper} {rest : List Oper} {o : Oper} {a : Act} {C : World → Prop} {Q : Act → Prop} (hA : ∀ w, (isAgg T).run P w = .ok false w) (x : Operand) (ho : o.op = .load T x) (hw : Region.wanted o (yielded ops a.tmps) = true) (p : Addr) (hx : a.eval x = .pointer (some p)) (v : Value) (hc : ∀ w, C w → w.cell? p = some v)
    (h : wpQuiet P ops C Q rest (a.put o.dst v)) : wpQuiet P ops C Q (o :: rest) a :=
  q_val hw (fun w hC => by
    have h1 := hc w hC
    have h2 := hA w
    unfold execOp
    simp only [ho, hx]
    go_simp) h
end XK
set_option maxRecDepth 100000 in
set_option maxHeartbeats 1000000 in
/-- the predicate of Resolve: not this prefix -/
theorem Tryd.resolveK (p : ByteArray) (pb : Nat) (x : I32) (w : World) (hpb : pb < w.heap.size) (hp : w.cell? ⟨pb, 0, none⟩ = some (.string p)) :
    Calls Tryd.prog 14 #[.agg (bv x.1).toArray, .pointer (some ⟨pb, 0, none⟩)] w fun e w' => e = .returned (.bool (!pfx p.data.toList x)) ∧ Go.RowKit.Below w.heap.size w w' := by
  have hlx := Lib.hid x.2
  have hP := Lib.hid hp
  clear hp
  go_enter Tryd.func14, Tryd.ntmps14
  go_wp2_with (refine x_bx rfl _ rfl _ rfl ?_)
  have hX0 : (w.alloc (.cells (bv x.1).toArray 24)).rangeAt w.heap.size 0 (bv x.1) := fun j v hj => by rw [Go.cell_of_row _ _ _ _ _ _ (Go.heap_alloc_new w _)]; simpa using hj
  have hs0 : w.heap.size < (w.alloc (.cells (bv x.1).toArray 24)).heap.size := by simp
  have hW0 : Go.RowKit.Below w.heap.size w (w.alloc (.cells (bv x.1).toArray 24)) := (Go.RowKit.Below.refl _ w).alloc (Nat.le_refl _) _
  have hp0 : (w.alloc (.cells (bv x.1).toArray 24)).cell? ⟨pb, 0, none⟩ = some (.string p) := (hW0.cell (p := ⟨pb, 0, none⟩) hpb).trans hP.out
  generalize w.alloc (.cells (bv x.1).toArray 24) = V at hX0 hs0 hW0 hp0 ⊢
  generalize hX : w.heap.size = X at hX0 hs0 hW0 hpb ⊢
  have hHX := Lib.hid hX
  clear hX
  obtain ⟨C, hC1, hCV, hCb, hCx, hCp⟩ : ∃ C : World → Prop, C { V with drawn := V.drawn + 1 } ∧ (∀ W, C W → Go.RowKit.Below V.heap.size V W) ∧ (∀ W W', C W → Go.RowKit.Below W.heap.size W W' → C W') ∧ (∀ W, C W → W.rangeAt X 0 (bv x.1)) ∧ (∀ W, C W → W.cell? ⟨pb, 0, none⟩ = some (.string p)) :=
    ⟨fun W => Go.RowKit.Below V.heap.size V W, (Go.RowKit.Below.refl _ _).drew, fun W h => h, fun W W' h hb => h.trans (hb.mono h.size), fun W h => range_below h hs0 hX0, fun W h => (h.cell (p := ⟨pb, 0, none⟩) (by show pb < _; omega)).trans hp0⟩
  have h1 : Hid (∀ W, C W → Calls Tryd.prog 16 #[.agg (bv x.1).toArray] W fun e w' => e = .returned (.string ⟨(MsgPure.hex x.1).toArray⟩) ∧ C w') := Lib.hid fun W hW => (Tryd.digits x.1 x.2 W).mono fun e w' h => ⟨h.1, hCb W w' hW h.2⟩
  have h2 : Hid (∀ W, C W → Calls Tryd.prog 15 #[.string ⟨(MsgPure.hex x.1).toArray⟩, .string p] W fun e w' => e = .returned (.bool (pfx p.data.toList x)) ∧ C w') := Lib.hid fun W hW => (Tryd.hasPrefix _ p W).mono fun e w' h => ⟨h.1, by rw [h.2]; exact hW⟩
  have hC1' := Lib.hid hC1
  have hCV' := Lib.hid hCV
  have hCx' := Lib.hid hCx
  have hCp' := Lib.hid hCp
  clear hC1 hCV hCb hCx hCp hp0 hX0 hP
  refine q_region C (by kernel_rfl) (by kernel_rfl) hC1'.out ?_
  repeat (first
    | (refine q_ld Tryd.arrId _ rfl rfl X 0 rfl x.1 hlx.out hCx'.out ?_)
    | (refine q_lds Tryd.isAgg9 _ rfl rfl ⟨pb, 0, none⟩ rfl (.string p) hCp'.out ?_)
    | (refine wpQuiet_step (fun K hK => ?_)
       go_simp
       first
       | (refine hK _ ?_; clear hK K)
       | (apply Exists.intro
          refine ⟨fun W hW => ?_, hK _ ?_⟩
          first
          | exact rfl
          | exact ⟨rfl, rfl⟩
          | (with_reducible exact h1.out W hW)
          | (with_reducible exact h2.out W hW)
          clear hK K)))
  refine wpQuiet_nil ?_
  intro V1 hV1
  have hb := hCV'.out V1 hV1
  go_wp2
  go_ret
  exact ⟨rfl, by rw [hHX.out]; exact hW0.trans (hb.mono (by omega))⟩
set_option maxRecDepth 100000 in
set_option maxHeartbeats 1000000 in
theorem Tryd.indexFunc (q : I32 → Bool) (lb : Addr) (n₀ : Nat) (zs : List I32) (hz : zs.length ≤ 1000) (sv : Value) (w : World) (hn : n₀ ≤ w.heap.size) (hI : Ids w.heap.size w sv zs)
    (hq : ∀ x W, Go.RowKit.Below n₀ w W → Calls Tryd.prog 14 #[.agg (bv x.1).toArray, .pointer (some lb)] W fun e w' => e = .returned (.bool (q x)) ∧ Go.RowKit.Below W.heap.size W w')
    (r : Int) (hr : Hid ((r = -1 ∧ ∀ x ∈ zs, q x = false) ∨ ∃ (i : Nat) (h : i < zs.length), r = i ∧ q zs[i] = true ∧ ∀ j (h : j < zs.length), j < i → q zs[j] = false)) :
    Calls Tryd.prog 33 #[sv, .func (.func 14) #[] #[.pointer (some lb)]] w fun e w' => e = .returned (.int .i64 r) ∧ Go.RowKit.Below w.heap.size w w' := by
  have eg : ∀ args w, (callFunc 14 args).run Tryd.prog w = .ok (.enter 14 args) w := enters_of Tryd.func14 (by kernel_rfl) rfl
  obtain ⟨a, n, c, rfl, hs⟩ := SL.of hI
  have hHs := Lib.hid hs
  have hQ := Lib.hid hq
  have hn1 : n ≤ 1000 := by have := hs.1; omega
  clear hI hs hq
  go_enter Tryd.func33, Tryd.ntmps33
  go_wp2
  go_loopw [8] (fun s8 wr => ∃ k : Nat, k ≤ n ∧ s8 = .int .i64 k ∧ Hid (∀ j (h : j < zs.length), j < k → q zs[j] = false) ∧ Hid (Go.RowKit.Below w.heap.size w wr)) (fun s8 _ => n - (intOf s8).toNat)
  case atStart => exact ⟨0, Nat.zero_le _, rfl, Lib.hid (fun j h h0 => absurd h0 (Nat.not_lt_zero _)), Lib.hid (Go.RowKit.Below.refl _ _)⟩
  case round =>
    obtain ⟨k, hk, rfl, hpre, hB⟩ := hrel
    have i0 : (0 : Int) ≤ k := by omega
    have i2 : (k : Int).toNat = k := by omega
    by_cases hlt : k < n
    · have i1 : (k : Int) < n := by omega
      have i3 : decide ((k : Int) < n) = true := by simp; omega
      obtain ⟨b, off, rfl, hb, hc⟩ := hHs.out.2 (by omega)
      have kz : k < zs.length := by have := hHs.out.1; omega
      have hR := Lib.hid (range_below hB.out hb (hc k kz))
      have hHz : Hid (∃ h : k < zs.length, zs[k] = zs[k]) := Lib.hid ⟨kz, rfl⟩
      clear hc
      obtain ⟨x, hx⟩ : ∃ x, zs[k] = x := ⟨_, rfl⟩
      rw [hx] at hR
      have hHx : Hid (∃ h : k < zs.length, zs[k] = x) := Lib.hid ⟨kz, hx⟩
      clear hx kz hHz
      have hlx := Lib.hid x.2
      obtain ⟨bq, hbq⟩ : ∃ bq, q x = bq := ⟨_, rfl⟩
      have hHq := Lib.hid hbq
      clear hbq
      have hcl := Lib.hid (fun W (h : Go.RowKit.Below w.heap.size w W) => hQ.out x W (h.mono hn))
      go_wp2_with (refine x_ld Tryd.arrId rfl _ rfl _ _ rfl x.1 hlx.out hR.out ?_)
      refine (hcl.out _ hB.out).mono ?_
      rintro e W1 ⟨rfl, hb1⟩
      rw [hHq.out]
      have hB1 := Lib.hid (hB.out.trans (hb1.mono hB.out.size))
      clear hB hR hb1 hcl
      cases bq
      · go_wp2
        go_roundw
        case rel => exact ⟨k + 1, by omega, by simp, Lib.hid (fun j h hj => by
          by_cases e : j = k
          · subst e; obtain ⟨h1, h2⟩ := hHx.out; rw [h2]; exact hHq.out
          · exact hpre.out j h (by omega)), hB1⟩
        case measure => simp [intOf]; omega
      · have hfin : Hid (r = k) := Lib.hid (by
          obtain ⟨h1, h2⟩ := hHx.out
          rcases hr.out with ⟨_, h3⟩ | ⟨i, h3, h4, h5, h6⟩
          · have := h3 zs[k] (List.getElem_mem h1)
            rw [h2, hHq.out] at this
            cases this
          · rw [h4]
            rcases Nat.lt_trichotomy i k with h | h | h
            · rw [hpre.out i h3 h] at h5; cases h5
            · rw [h]
            · have := h6 k h1 h
              rw [h2, hHq.out] at this
              cases this)
        go_wp2
        go_ret
        exact ⟨by rw [hfin.out]; rfl, hB1.out⟩
    · obtain rfl : k = n := by omega
      have i3 : decide ((k : Int) < k) = false := by simp
      have hfin : Hid (r = -1) := Lib.hid (by
        rcases hr.out with ⟨h3, _⟩ | ⟨i, h3, h4, h5, h6⟩
        · exact h3
        · rw [hpre.out i h3 (by have := hHs.out.1; omega)] at h5; cases h5)
      go_wp2
      go_ret
      exact ⟨by rw [hfin.out]; rfl, hB.out⟩
namespace XK
/-- the state of DeleteFunc's loop: kk kept out of the first jj -/
structure DelInv (q : I32 → Bool) (d : Array I32) (jj kk : Nat) (dk : Array I32) : Prop where
  size : dk.size = d.size
  le : jj ≤ d.size
  lt : kk < jj
  len : ((d.toList.take jj).filter fun x => !q x).length = kk
  low : ∀ j, j < kk → ((d.toList.take jj).filter fun x => !q x)[j]? = some dk[j]!
  high : ∀ j, jj ≤ j → dk[j]! = d[j]!
theorem DelInv.snoc {q : I32 → Bool} {d : Array I32} {jj : Nat} (h : jj < d.size) : (d.toList.take (jj + 1)).filter (fun x => !q x) = (d.toList.take jj).filter (fun x => !q x) ++ (if q d[jj]! = true then [] else [d[jj]!]) := by
  rw [List.take_succ_eq_append_getElem (by simpa using h), List.filter_append, List.filter_cons, List.filter_nil, getElem!_pos d jj h]
  congr 1
  simp only [Array.getElem_toList]
  cases q d[jj] <;> simp
theorem DelInv.start {q : I32 → Bool} {d : Array I32} {i : Nat} (h : i < d.size) (hq : q d[i]! = true) (hpre : ∀ j, j < i → q d[j]! = false) : DelInv q d (i + 1) i d := by
  have hall : (d.toList.take i).filter (fun x => !q x) = d.toList.take i := by
    rw [List.filter_eq_self]
    intro x hx
    obtain ⟨j, hj, rfl⟩ := List.mem_iff_getElem.1 hx
    rw [List.length_take] at hj
    rw [List.getElem_take]
    have := hpre j (by omega)
    rw [getElem!_pos d j (by simp at hj; omega)] at this
    simp [this]
  have e : (d.toList.take (i + 1)).filter (fun x => !q x) = d.toList.take i := by
    rw [DelInv.snoc h, hall, if_pos hq, List.append_nil]
  refine ⟨rfl, h, Nat.lt_succ_self _, by rw [e, List.length_take]; simp; omega, fun j hj => ?_, fun _ _ => rfl⟩
  rw [e, List.getElem?_take, if_pos hj, getElem!_pos d j (by omega)]
  simp [List.getElem?_eq_getElem, show j < d.size by omega]
theorem DelInv.drop {q : I32 → Bool} {d dk : Array I32} {jj kk : Nat} (h : DelInv q d jj kk dk) (hlt : jj < d.size) (hq : q d[jj]! = true) : DelInv q d (jj + 1) kk dk := by
  have e : (d.toList.take (jj + 1)).filter (fun x => !q x) = (d.toList.take jj).filter (fun x => !q x) := by
    rw [DelInv.snoc hlt, if_pos hq, List.append_nil]
  exact ⟨h.size, hlt, by have := h.lt; omega, by rw [e]; exact h.len, fun j hj => by rw [e]; exact h.low j hj, fun j hj => h.high j (by omega)⟩
theorem DelInv.keep {q : I32 → Bool} {d dk : Array I32} {jj kk : Nat} (h : DelInv q d jj kk dk) (hlt : jj < d.size) (hq : q d[jj]! = false) : DelInv q d (jj + 1) (kk + 1) (dk.setIfInBounds kk d[jj]!) := by
  have e : (d.toList.take (jj + 1)).filter (fun x => !q x) = (d.toList.take jj).filter (fun x => !q x) ++ [d[jj]!] := by
    rw [DelInv.snoc hlt, hq]; rfl
  have hl := h.lt
  have hs := h.size
  refine ⟨by rw [Array.size_setIfInBounds]; exact hs, hlt, by omega, by rw [e, List.length_append, h.len]; rfl, fun j hj => ?_, fun j hj => ?_⟩
  · rw [e]
    by_cases ej : j = kk
    · subst ej
      rw [List.getElem?_append_right (by rw [h.len]; exact Nat.le_refl _), h.len, Nat.sub_self, getElem!_set_same dk j _ (by omega)]
      rfl
    · rw [List.getElem?_append_left (by rw [h.len]; omega), getElem!_set_other dk kk j _ ej]
      exact h.low j (by omega)
  · rw [getElem!_set_other dk kk j _ (by omega)]
    exact h.high j (by omega)
end XK
theorem XK.first_true {α : Type} (q : α → Bool) (zs : List α) (h : ¬ ∀ x ∈ zs, q x = false) : ∃ (i : Nat) (h : i < zs.length), q zs[i] = true ∧ ∀ j (h : j < zs.length), j < i → q zs[j] = false := by
  have h1 : zs.findIdx q < zs.length := by
    rw [List.findIdx_lt_length]
    apply Classical.byContradiction
    intro h2
    exact h fun x hx => by
      cases hq : q x
      · rfl
      · exact absurd ⟨x, hx, hq⟩ h2
  exact ⟨zs.findIdx q, h1, List.findIdx_getElem, fun j hj hlt => by
    have := List.not_of_lt_findIdx hlt
    simpa using this⟩
theorem XK.OwnIds.below {n₀ : Nat} {W W' : World} {v : Value} {zs : List I32} (h : OwnIds n₀ W v zs) (hb : Go.RowKit.Below W.heap.size W W') : OwnIds n₀ W' v zs :=
  h.elim .inl fun ⟨g, cap, e, hg, hc, hl, hr⟩ => .inr ⟨g, cap, e, hg, hc, Nat.lt_of_lt_of_le hl hb.size, hr.below hb hl⟩
set_option maxRecDepth 100000 in
set_option maxHeartbeats 2000000 in
theorem Tryd.deleteFunc (q : I32 → Bool) (lb : Addr) (n₀ : Nat) (zs : List I32) (hz : zs.length ≤ 1000) (v : Value) (w : World) (hn : n₀ ≤ w.heap.size) (hI : OwnIds n₀ w v zs)
    (hq : ∀ x W, Go.RowKit.Below n₀ w W → Calls Tryd.prog 14 #[.agg (bv x.1).toArray, .pointer (some lb)] W fun e w' => e = .returned (.bool (q x)) ∧ Go.RowKit.Below W.heap.size W w') :
    Calls Tryd.prog 12 #[v, .func (.func 14) #[] #[.pointer (some lb)]] w fun e w' => ∃ v', e = .returned v' ∧ OwnIds n₀ w' v' (zs.filter fun x => !q x) ∧ Go.RowKit.Below n₀ w w' := by
  have eg : ∀ args w, (callFunc 14 args).run Tryd.prog w = .ok (.enter 14 args) w := enters_of Tryd.func14 (by kernel_rfl) rfl
  have hQ := Lib.hid hq
  have hix := fun r hr => Tryd.indexFunc q lb n₀ zs hz v w hn hI.ids hq r hr
  have hHI := Lib.hid hI
  clear hq hI
  by_cases hall : ∀ x ∈ zs, q x = false
  · have h1 := hix (-1) (Lib.hid (.inl ⟨rfl, hall⟩))
    have hf : Hid (zs.filter (fun x => !q x) = zs) := Lib.hid (by
      rw [List.filter_eq_self]
      intro x hx
      simp [hall x hx])
    obtain ⟨a, n, c, rfl, _, _⟩ := hHI.out.sl
    clear hix hall
    go_enter Tryd.func12, Tryd.ntmps12
    go_wp2_with fail
    refine h1.mono ?_
    rintro e W1 ⟨rfl, hb⟩
    go_wp2
    go_ret
    refine ⟨_, rfl, ?_, hb.mono hn⟩
    rw [hf.out]
    exact hHI.out.below hb
  · obtain ⟨i, hi, hqi, hpre⟩ : ∃ (i : Nat) (h : i < zs.length), q zs[i] = true ∧ ∀ j (h : j < zs.length), j < i → q zs[j] = false := XK.first_true q zs hall
    have h1 := hix i (Lib.hid (.inr ⟨i, hi, rfl, hqi, hpre⟩))
    clear hix hall
    rcases hHI.out with ⟨rfl, rfl⟩ | ⟨g, cap, rfl, hg, hcap, hgl, hR⟩
    · simp at hi
    · have hD := XK.DelInv.start (q := q) (d := zs.toArray) (i := i) (by simpa using hi) (by rw [getElem!_pos zs.toArray i (by simpa using hi)]; simpa using hqi) (fun j hj => by rw [getElem!_pos zs.toArray j (by simp; omega)]; simpa using hpre j (by omega) hj)
      have hHD := Lib.hid hD
      have hR0 := Lib.hid hR
      clear hHI hR hD hpre hqi
      have hsz : zs.toArray.size = zs.length := by simp
      have hHsz := Lib.hid hsz
      clear hsz
      go_enter Tryd.func12, Tryd.ntmps12
      go_wp2_with fail
      refine h1.mono ?_
      rintro e W1 ⟨rfl, hb⟩
      have i0 : (0 : Int) ≤ i := by omega
      have i9 : ((i : Int) == -1) = false := by rw [beq_eq_false_iff_ne]; omega
      have hB1 := Lib.hid (hb.mono hn)
      have hR1 := Lib.hid (hR0.out.below hb hgl)
      have hz1 : W1.heap.size ≥ w.heap.size := hb.size
      clear hb hR0 h1
      go_wp2
      go_loopw [5, 6] (fun s5 s6 wr => ∃ (kk jj : Nat) (dk : Array I32), s5 = .int .i64 kk ∧ s6 = .int .i64 jj ∧ kk < jj ∧ jj ≤ zs.length ∧ Hid (Row wr g dk) ∧ Hid (Go.RowKit.Below n₀ w wr) ∧ Hid (DelInv q zs.toArray jj kk dk) ∧ Hid (g < wr.heap.size)) (fun _ s6 _ => zs.length - (intOf s6).toNat)
      case atStart => exact ⟨i, i + 1, zs.toArray, rfl, by simp, by omega, by omega, hR1, hB1, hHD, Lib.hid (by omega)⟩
      case round =>
        clear hR1 hB1 hHD
        obtain ⟨kk, jj, dk, rfl, rfl, hkj, hjn, hR, hB, hD, hG⟩ := hrel
        have k0 : (0 : Int) ≤ kk := by omega
        have k1 : (kk : Int) < zs.length := by omega
        have k2 : (kk : Int).toNat = kk := by omega
        have j0 : (0 : Int) ≤ jj := by omega
        have j2 : (jj : Int).toNat = jj := by omega
        by_cases hlt : jj < zs.length
        · have j1 : (jj : Int) < zs.length := by omega
          have j3 : decide ((jj : Int) < zs.length) = true := by simp; omega
          have hM := (hR.out jj (by rw [hD.out.size, hHsz.out]; exact hlt)).1
          rw [hD.out.high jj (Nat.le_refl _)] at hM
          obtain ⟨x, hx⟩ : ∃ x, zs.toArray[jj]! = x := ⟨_, rfl⟩
          rw [hx] at hM
          have hHM := Lib.hid hM
          have hHx := Lib.hid hx
          clear hx hM
          have hlx := Lib.hid x.2
          obtain ⟨bq, hbq⟩ : ∃ bq, q x = bq := ⟨_, rfl⟩
          have hHq := Lib.hid hbq
          clear hbq
          go_wp2_with (first
            | (refine x_ld Tryd.arrId rfl _ rfl g (jj * 32) rfl x.1 hlx.out hHM.out ?_)
            | (refine x_ld Tryd.arrId rfl _ rfl wr.heap.size 0 rfl x.1 hlx.out (one_new wr x _) ?_)
            | (refine x_al Tryd.arrId rfl rfl ?_)
            | (refine x_stn Tryd.arrId rfl _ _ rfl rfl _ rfl hlx.out _ _ rfl ?_))
          have hWa : Go.RowKit.Below wr.heap.size wr (wr.alloc (.cells (bv x.1).toArray 24)) := (Go.RowKit.Below.refl _ wr).alloc (Nat.le_refl _) _
          have hXa := one_new wr x 24
          have hsa : wr.heap.size < (wr.alloc (.cells (bv x.1).toArray 24)).heap.size := by simp
          have hnw : n₀ ≤ wr.heap.size := by have := hB.out.size; omega
          generalize wr.alloc (.cells (bv x.1).toArray 24) = Wa at hWa hXa hsa ⊢
          refine (hQ.out x Wa (hB.out.trans (hWa.mono hnw))).mono ?_
          rintro e W2 ⟨rfl, hb2⟩
          rw [hHq.out]
          have hb3 : Go.RowKit.Below wr.heap.size wr W2 := hWa.trans (hb2.mono hWa.size)
          have hB2 := Lib.hid (hB.out.trans (hb3.mono hnw))
          have hR2 := Lib.hid (hR.out.below hb3 hG.out)
          have hX2 := Lib.hid (range_below hb2 hsa hXa)
          have hG2 := Lib.hid (Nat.lt_of_lt_of_le hG.out hb3.size)
          have hne : Hid (g ≠ wr.heap.size) := Lib.hid (Nat.ne_of_lt hG.out)
          clear hWa hXa hsa hnw hb2 hb3 hB hR hG hHM
          generalize wr.heap.size = nb at hX2 hne ⊢
          cases bq
          · go_wp2_with (first
              | (refine x_ld Tryd.arrId rfl _ rfl nb 0 rfl x.1 hlx.out hX2.out ?_)
              | (refine x_st Tryd.arrId rfl _ _ rfl g (kk * 32) rfl x.1 rfl hlx.out (hR2.out kk (by rw [hD.out.size, hHsz.out]; omega)).2 ?_))
            go_roundw
            case rel =>
              have hD2 := hD.out.keep (by rw [hHsz.out]; exact hlt) (by rw [hHx.out]; exact hHq.out)
              rw [hHx.out] at hD2
              exact ⟨kk + 1, jj + 1, dk.setIfInBounds kk x, by simp, by simp, by omega, by omega, Lib.hid (hR2.out.set (by rw [hD.out.size, hHsz.out]; omega) x), Lib.hid (XK.below_setCells g hg _ _ _ hB2.out), Lib.hid hD2, Lib.hid (Nat.lt_of_lt_of_le hG2.out (XK.below_setCells (B := 0) g (Nat.zero_le _) _ _ _ (Go.RowKit.Below.refl _ _)).size)⟩
            case measure => simp [intOf]; omega
          · go_wp2_with fail
            go_roundw
            case rel => exact ⟨kk, jj + 1, dk, rfl, by simp, by omega, by omega, hR2, hB2, Lib.hid (hD.out.drop (by rw [hHsz.out]; exact hlt) (by rw [hHx.out]; exact hHq.out)), hG2⟩
            case measure => simp [intOf]; omega
        · obtain rfl : jj = zs.length := by omega
          have j3 : decide ((zs.length : Int) < zs.length) = false := by simp
          obtain ⟨vs, hvl, hcl⟩ := XK.run_clear Tryd.arrId Tryd.underlying22 wr g (kk * 32) (zs.length - kk) (cap - kk) (by omega) (fun j hj => by
            have := (hR.out (kk + j / 32) (by rw [hD.out.size, hHsz.out]; omega)).2 (j % 32) (Nat.mod_lt _ (by decide))
            rw [show (kk + j / 32) * 32 + j % 32 = kk * 32 + j by omega] at this
            exact this)
          have hfl : Hid ((zs.filter fun x => !q x).length = kk) := Lib.hid (by
            have := hD.out.len
            rw [List.take_of_length_le (by simp)] at this
            exact this)
          have hRz : Hid (Row (wr.setCells g (kk * 32) vs) g (zs.filter fun x => !q x).toArray) := Lib.hid (by
            have hlow := hD.out.low
            rw [List.take_of_length_le (by simp)] at hlow
            exact XK.row_low (d := zs.toArray) hR.out hD.out.size hfl.out hlow (by rw [hHsz.out]; omega))
          have hBz := Lib.hid (XK.below_setCells g hg vs (kk * 32) _ hB.out)
          have hGz : Hid (g < (wr.setCells g (kk * 32) vs).heap.size) := Lib.hid (Nat.lt_of_lt_of_le hG.out (XK.below_setCells (B := 0) g (Nat.zero_le _) _ _ _ (Go.RowKit.Below.refl _ _)).size)
          have k3 : (kk : Int) ≤ cap := by omega
          clear hR hB hD hG
          generalize wr.setCells g (kk * 32) vs = Z at hcl hRz hBz hGz
          go_wp2
          go_ret
          refine ⟨_, rfl, .inr ⟨g, cap, ?_, hg, ?_, hGz.out, hRz.out⟩, hBz.out⟩
          · rw [hfl.out]; rfl
          · rw [hfl.out]; omega
end Go.Proofs
