/- the reference's Resolve -/
import Derived.Test.YtfgadmiencgmgaaDoorRes
namespace Go.Proofs
open Go.RowKit Go.Shelf XK Go.Sort
set_option linter.unusedVariables false
set_option linter.unusedSimpArgs false
namespace XK
theorem resOf_same {a b : List I32} (ha : a.Nodup) (hb : b.Nodup) (h : ∀ x, x ∈ a ↔ x ∈ b) : resOf a = resOf b := by
  match a, b with
  | [], [] => rfl
  | [], y :: b => exact absurd ((h y).2 (List.mem_cons_self ..)) (by simp)
  | x :: a, [] => exact absurd ((h x).1 (List.mem_cons_self ..)) (by simp)
  | [x], [y] =>
    have := (h x).1 (List.mem_cons_self ..)
    rw [List.mem_singleton.1 this]
  | [x], y :: z :: b =>
    have h1 := List.mem_singleton.1 ((h y).2 (List.mem_cons_self ..))
    have h2 := List.mem_singleton.1 ((h z).2 (List.mem_cons_of_mem _ (List.mem_cons_self ..)))
    exact absurd (h1.trans h2.symm) (by simp at hb; exact fun e => hb.1.1 e)
  | x :: z :: a, [y] =>
    have h1 := List.mem_singleton.1 ((h x).1 (List.mem_cons_self ..))
    have h2 := List.mem_singleton.1 ((h z).1 (List.mem_cons_of_mem _ (List.mem_cons_self ..)))
    exact absurd (h1.trans h2.symm) (by simp at ha; exact fun e => ha.1.1 e)
  | x :: z :: a, y :: u :: b => rfl
theorem asc_nodup {l : List I32} (h : Asc l) : l.Nodup := h.imp fun {x y} h e => by rw [e] at h; omega
theorem res_of_found {p : List UInt8} {zs out : List I32} (hn : out.Nodup) (h : ∀ z, z ∈ out ↔ z ∈ zs ∧ pfx p z = true) : resOf out = resOf ((sset zs).filter (pfx p)) :=
  resOf_same hn ((asc_nodup (sset_asc zs)).sublist List.filter_sublist) fun z => by rw [h z, List.mem_filter, mem_sset]
end XK
set_option maxRecDepth 100000 in
set_option maxHeartbeats 2000000 in
theorem Tryd.rResolve (p : ByteArray) (hp : p.size ≤ 9223372036854775807) (zs : List I32) (hz : zs.length ≤ 500) (sv : Value) (w : World) (hI : Ids w.heap.size w sv zs) :
    Calls Tryd.prog 6 #[.string p, sv] w fun e w' => e = .returned (resv (res p.data.toList zs)) ∧ Go.RowKit.Below w.heap.size w w' := by
  have hpl : p.data.toList.length = p.size := by rw [Array.length_toList]; rfl
  by_cases h4 : p.size < 4
  · have hr : Hid (res p.data.toList zs = (z32, 4)) := Lib.hid (by unfold res; rw [if_pos (by omega)])
    clear hpl hI
    go_enter Tryd.func6, Tryd.ntmps6
    go_wp2_with (first | (refine x_al Tryd.arrRId rfl rfl ?_) | (refine x_bz Tryd.arrRId rfl rfl ?_) | (refine x_stn Tryd.arrRId rfl _ _ rfl rfl z32 rfl rfl _ _ rfl ?_))
    refine bodyPost_ret (XK.results_arr2 Tryd.arrRId rfl _ _ _ _ z32 rfl rfl (Go.heap_alloc_new w _)) rfl ⟨?_, (Go.RowKit.Below.refl _ _).alloc (Nat.le_refl _) _⟩
    rw [hr.out]; rfl
  · by_cases h64 : 64 < p.size
    · have hr : Hid (res p.data.toList zs = (z32, 5)) := Lib.hid (by unfold res; rw [if_neg (by omega), if_pos (by omega)])
      clear hpl hI
      go_enter Tryd.func6, Tryd.ntmps6
      go_wp2_with (first | (refine x_al Tryd.arrRId rfl rfl ?_) | (refine x_bz Tryd.arrRId rfl rfl ?_) | (refine x_stn Tryd.arrRId rfl _ _ rfl rfl z32 rfl rfl _ _ rfl ?_))
      refine bodyPost_ret (XK.results_arr2 Tryd.arrRId rfl _ _ _ _ z32 rfl rfl (Go.heap_alloc_new w _)) rfl ⟨?_, (Go.RowKit.Below.refl _ _).alloc (Nat.le_refl _) _⟩
      rw [hr.out]; rfl
    · have hB0 : Hid (Go.RowKit.Below w.heap.size w (w.alloc (.cells (bv z32).toArray 28))) := Lib.hid ((Go.RowKit.Below.refl _ _).alloc (Nat.le_refl _) _)
      have hr0 : Hid ((w.alloc (.cells (bv z32).toArray 28)).heap[w.heap.size]? = some (.cells (bv z32).toArray 28 (0, 0))) := Lib.hid (Go.heap_alloc_new w _)
      have hI2 := Lib.hid hI
      clear hI
      have hr : Hid (res p.data.toList zs = if ∀ c ∈ p.data.toList, MsgPure.isD c = true then resOf ((sset zs).filter (pfx p.data.toList)) else (z32, 6)) := Lib.hid (by unfold res; rw [if_neg (by omega), if_neg (by omega)])
      have hHpl := Lib.hid hpl
      clear hpl
      go_enter Tryd.func6, Tryd.ntmps6
      go_wp2_with (refine x_al Tryd.arrRId rfl rfl ?_)
      generalize w.alloc (.cells (bv z32).toArray 28) = V at hB0 hr0 ⊢
      go_loop [6] (fun s6 => ∃ k : Nat, k ≤ p.size ∧ s6 = .int .i64 k ∧ Hid (∀ j, j < k → MsgPure.isD (p.data.toList.getD j 0) = true)) (fun s6 => p.size - (intOf s6).toNat)
      case atStart => exact ⟨0, Nat.zero_le _, rfl, Lib.hid (fun j h => absurd h (Nat.not_lt_zero _))⟩
      case round =>
        obtain ⟨k, hk, rfl, hpre⟩ := hrel
        have i0 : (0 : Int) ≤ k := by omega
        have i2 : (k : Int).toNat = k := by omega
        by_cases hlt : k < p.size
        · have i1 : (k : Int) < p.size := by omega
          have hby := XK.byte_at p k hlt
          have hc0 := fun W => Tryd.rdigit (p[k]'hlt) W
          by_cases hx : MsgPure.isD (p[k]'hlt) = true
          · have hdv : XK.dvI (p[k]'hlt) = (MsgPure.dv (p[k]'hlt) : Nat) := by unfold XK.dvI; rw [if_pos hx]
            rw [hdv] at hc0
            have hpre2 : Hid (∀ j, j < k + 1 → MsgPure.isD (p.data.toList.getD j 0) = true) := Lib.hid fun j hj => by
              rcases Nat.lt_or_eq_of_le (Nat.lt_succ_iff.1 hj) with h' | h'
              · exact hpre.out j h'
              · rw [h', ← hby]; exact hx
            clear hby hx hdv
            generalize MsgPure.dv (p[k]'hlt) = d at hc0
            have d0 : decide ((d : Int) < 0) = false := decide_eq_false (by omega)
            go_wp2_with (go_at_call 17; refine (hc0 _).mono ?_; rintro e w1 ⟨rfl, rfl⟩)
            go_round
            case rel => exact ⟨k + 1, by omega, by simp, hpre2⟩
            case measure => simp [intOf]; omega
          · have hdv : XK.dvI (p[k]'hlt) = -1 := by unfold XK.dvI; rw [if_neg hx]
            rw [hdv] at hc0
            have hr6 : Hid (res p.data.toList zs = (z32, 6)) := Lib.hid (by
              rw [hr.out, if_neg fun h => hx ?_]
              rw [hby]
              have hk' : k < p.data.toList.length := by rw [hHpl.out]; exact hlt
              rw [List.getD_eq_getElem?_getD, List.getElem?_eq_getElem hk']
              exact h _ (List.getElem_mem hk'))
            clear hby hx hdv
            go_wp2_with (first | (go_at_call 17; refine (hc0 _).mono ?_; rintro e w1 ⟨rfl, rfl⟩) | (refine x_bz Tryd.arrRId rfl rfl ?_) | (refine x_st0 Tryd.arrRId rfl _ _ rfl _ rfl z32 rfl rfl _ _ hr0.out rfl ?_))
            refine bodyPost_ret (XK.results_arr2 Tryd.arrRId rfl _ _ _ _ z32 rfl rfl (setRow_heap _ _ _ _ _ _ hr0.out)) rfl ⟨?_, below_setRow hB0.out (Nat.le_refl _) _⟩
            rw [hr6.out]; rfl
        · obtain rfl : k = p.size := by omega
          have i3 : decide ((p.size : Int) < p.size) = false := by simp
          have hr7 : Hid (res p.data.toList zs = resOf ((sset zs).filter (pfx p.data.toList))) := Lib.hid (by
            rw [hr.out, if_pos fun c hc => ?_]
            obtain ⟨j, hj, rfl⟩ := List.mem_iff_getElem.1 hc
            have := hpre.out j (by rw [← hHpl.out]; exact hj)
            rwa [List.getD_eq_getElem?_getD, List.getElem?_eq_getElem hj] at this)
          clear hpre hr
          obtain ⟨a, n, c, rfl, hs⟩ := SL.of hI2.out
          have hHs := Lib.hid hs
          have hn : n ≤ 500 := by have := hs.1; omega
          clear hs hI2
          go_wp2
          go_loopw [7, 8] (fun s7 s8 wr => ∃ (m : Nat) (out : List I32), m ≤ n ∧ s8 = .int .i64 m ∧ out.length ≤ m ∧ Hid (out.Nodup ∧ ∀ z, z ∈ out ↔ z ∈ zs.take m ∧ pfx p.data.toList z = true) ∧ Hid (wr.ownsRow V.heap.size 28 32 s7 out.length (flat out)) ∧ Hid (Go.RowKit.Below V.heap.size V wr)) (fun _ s8 _ => n - (intOf s8).toNat)
          case atStart => exact ⟨0, [], Nat.zero_le _, rfl, Nat.le_refl _, Lib.hid ⟨List.nodup_nil, by simp⟩, Lib.hid (World.ownsRow_nil _ _ _ _), Lib.hid (Go.RowKit.Below.refl _ _)⟩
          case round =>
            obtain ⟨m, out, hm, rfl, hlen, hA, hO, hB⟩ := hrel
            have j0 : (0 : Int) ≤ m := by omega
            have j2 : (m : Int).toNat = m := by omega
            by_cases hlt2 : m < n
            · have j1 : (m : Int) < n := by omega
              have j3 : decide ((m : Int) < n) = true := by simp; omega
              obtain ⟨b, off, rfl, hb, hc⟩ := hHs.out.2 (by omega)
              have kz : m < zs.length := by have := hHs.out.1; omega
              have hR0 := Lib.hid (hc m kz)
              have htk : Hid (zs.take (m + 1) = zs.take m ++ [zs[m]]) := Lib.hid (List.take_append_getElem kz).symm
              clear hc
              generalize zs[m] = x at hR0 htk
              have hlx := Lib.hid x.2
              have hsz0 : w.heap.size ≤ V.heap.size := hB0.out.size
              have hRv := Lib.hid (range_below hB0.out hb hR0.out)
              have hR := Lib.hid (range_below hB.out (Nat.lt_of_lt_of_le hb hsz0) hRv.out)
              clear kz
              obtain ⟨D, hD⟩ : ∃ D : ByteArray, (⟨(MsgPure.hex x.1).toArray⟩ : ByteArray) = D := ⟨_, rfl⟩
              have hdg := fun W => Tryd.rDigits x.1 hlx.out W
              rw [hD] at hdg
              have hDl : D.data.toList = MsgPure.hex x.1 := by rw [← hD]
              have hD64 : p.size ≤ D.size := by
                have h1 : D.data.toList.length = D.size := by rw [Array.length_toList]; rfl
                rw [hDl, MsgPure.hex_length, hlx.out] at h1
                omega
              have hD65 : (p.size : Int) ≤ D.size := by omega
              obtain ⟨bq, hbq⟩ : ∃ bq, ((D.extract 0 p.size).toList == p.toList) = bq := ⟨_, rfl⟩
              have hpf : Hid (pfx p.data.toList x = bq) := Lib.hid (by
                rw [← hbq, Lib.extract_toList, ByteArray.toList_eq p, hDl, List.drop_zero, Nat.sub_zero]
                unfold pfx Lib.hasPrefix
                rw [Bool.eq_iff_iff, List.isPrefixOf_iff_prefix, beq_iff_eq, List.prefix_iff_eq_take, hHpl.out, eq_comm])
              have hdg' := Lib.hid hdg
              clear hD hDl hdg hsz0
              go_wp2_with (refine x_ld Tryd.arrRId rfl _ rfl _ _ rfl x.1 hlx.out hR.out ?_)
              refine (hdg'.out _).mono ?_
              rintro e W1 ⟨rfl, hb1⟩
              have hO1 := Lib.hid (XK.own_below hO.out hb1)
              have hB1 := Lib.hid (hB.out.trans (hb1.mono hB.out.size))
              have hR1 := Lib.hid (range_below hB1.out (Nat.lt_of_lt_of_le hb hB0.out.size) hRv.out)
              clear hO hB hR hb1
              have hskip : pfx p.data.toList x = false ∨ x ∈ out → (out.Nodup ∧ ∀ z, z ∈ out ↔ z ∈ zs.take (m + 1) ∧ pfx p.data.toList z = true) := fun hc => ⟨hA.out.1, fun z => by
                rw [hA.out.2 z, htk.out, List.mem_append, List.mem_singleton]
                constructor
                · rintro ⟨h1, h2⟩; exact ⟨.inl h1, h2⟩
                · rintro ⟨h1 | h1, h2⟩
                  · exact ⟨h1, h2⟩
                  · subst h1
                    rcases hc with h3 | h3
                    · rw [h3] at h2; cases h2
                    · exact ⟨((hA.out.2 z).1 h3).1, h2⟩⟩
              have hHs2 := Lib.hid hskip
              clear hskip
              obtain ⟨A, cc, rfl⟩ := XK.own_slice hO1.out
              cases bq
              · go_wp2
                go_roundw
                case rel => exact ⟨m + 1, out, by omega, by simp, by omega, Lib.hid (hHs2.out (.inl hpf.out)), hO1, hB1⟩
                case measure => simp [intOf]; omega
              · have hIo := Lib.hid (ids_own hO1.out)
                obtain ⟨r, hr⟩ : ∃ r, memb x out = r := ⟨_, rfl⟩
                have hHr := Lib.hid hr
                clear hr
                go_wp2_with (refine x_ld Tryd.arrRId rfl _ rfl _ _ rfl x.1 hlx.out hR1.out ?_)
                refine (Tryd.rHas out (by omega) _ _ hIo.out x).mono ?_
                rintro e W2 ⟨rfl, hb2⟩
                rw [hHr.out]
                have hO2 := Lib.hid (XK.own_below hO1.out hb2)
                have hB2 := Lib.hid (hB1.out.trans (hb2.mono hB1.out.size))
                have hR2 := Lib.hid (range_below hB2.out (Nat.lt_of_lt_of_le hb hB0.out.size) hRv.out)
                clear hO1 hB1 hR1 hb2 hIo
                cases r
                · have hno : x ∉ out := by have := hHr.out; unfold memb at this; simpa using this
                  have hnew : Hid ((out ++ [x]).Nodup ∧ ∀ z, z ∈ out ++ [x] ↔ z ∈ zs.take (m + 1) ∧ pfx p.data.toList z = true) := Lib.hid ⟨by
                    rw [List.nodup_append]
                    exact ⟨hA.out.1, by simp, fun a ha b hb' => by rw [List.mem_singleton.1 hb']; exact fun e => hno (e ▸ ha)⟩, fun z => by
                    rw [List.mem_append, hA.out.2 z, htk.out, List.mem_append, List.mem_singleton]
                    constructor
                    · rintro (⟨h1, h2⟩ | h1)
                      · exact ⟨.inl h1, h2⟩
                      · subst h1; exact ⟨.inr rfl, hpf.out⟩
                    · rintro ⟨h1 | h1, h2⟩
                      · exact .inl ⟨h1, h2⟩
                      · exact .inr h1⟩
                  clear hno
                  go_wp2_with (first
                    | (refine x_ld Tryd.arrRId rfl _ rfl _ _ rfl x.1 hlx.out hR2.out ?_)
                    | (refine x_bsl Tryd.arrRId _ _ rfl rfl Tryd.underlying31 x.1 hlx.out rfl ?_)
                    | (at_builtin; refine x_app rfl _ _ 31 rfl V.heap.size 28 (.agg (bv z32).toArray) 32 32 Tryd.underlying31 Tryd.infoRId rfl (by decide) _ out.length _ rfl hO2.out 1 (bv x.1) _ rfl rfl (by rw [bv_length, hlx.out]) (bv_one x.1) (by omega) (by decide) hB2.out.size ?_))
                  intro v' w1 hown1 hg1 _ _
                  have hb3 : Hid (Go.RowKit.Below V.heap.size V w1) := Lib.hid (hB2.out.grown hg1 hB2.out.size (fun j e => (hO2.out.lt j e).1))
                  have hown2 : Hid (w1.ownsRow V.heap.size 28 32 v' (out ++ [x]).length (flat (out ++ [x]))) := Lib.hid (by
                    rw [flat_snoc, List.length_append]
                    exact hown1)
                  clear hown1 hg1 hB2 hO2 hR2
                  obtain ⟨A', cc', rfl⟩ := XK.own_slice hown2.out
                  go_wp2
                  go_roundw
                  case rel => exact ⟨m + 1, out ++ [x], by omega, by simp, by simp; omega, hnew, hown2, hb3⟩
                  case measure => simp [intOf]; omega
                · have hin : x ∈ out := by have := hHr.out; unfold memb at this; simpa using this
                  have hHs3 := Lib.hid (hHs2.out (.inr hin))
                  clear hin
                  go_wp2
                  go_roundw
                  case rel => exact ⟨m + 1, out, by omega, by simp, by omega, hHs3, hO2, hB2⟩
                  case measure => simp [intOf]; omega
            · obtain rfl : m = n := by omega
              have j3 : decide ((m : Int) < m) = false := by simp
              have hfin : Hid (res p.data.toList zs = resOf out) := Lib.hid (by
                rw [hr7.out]
                refine (res_of_found hA.out.1 fun z => ?_).symm
                rw [hA.out.2 z, List.take_of_length_le (by have := hHs.out.1; omega)])
              have hIo := ids_own hO.out
              have hBw : Hid (Go.RowKit.Below w.heap.size w wr) := Lib.hid (hB0.out.trans (hB.out.mono hB0.out.size))
              have hrw : Hid (wr.heap[w.heap.size]? = some (.cells (bv z32).toArray 28 (0, 0))) := Lib.hid ((hB.out.block _ ((Array.getElem?_eq_some_iff.1 hr0.out).1)).trans hr0.out)
              obtain ⟨a3, n3, c3, rfl, hs3⟩ := SL.of hIo
              have hHs3 := Lib.hid hs3
              clear hs3 hA hO hB hr7 hIo hB0 hr0
              match out, hlen, hfin, hHs3 with
              | [], hlen, hfin, hHs3 =>
                obtain rfl : n3 = 0 := hHs3.out.1
                go_wp2_with (first | (refine x_bz Tryd.arrRId rfl rfl ?_) | (refine x_st0 Tryd.arrRId rfl _ _ rfl _ rfl z32 rfl rfl _ _ hrw.out rfl ?_))
                refine bodyPost_ret (XK.results_arr2 Tryd.arrRId rfl _ _ _ _ z32 rfl rfl (setRow_heap _ _ _ _ _ _ hrw.out)) rfl ⟨?_, below_setRow hBw.out (Nat.le_refl _) _⟩
                rw [hfin.out]; rfl
              | [x], hlen, hfin, hHs3 =>
                obtain rfl : n3 = 1 := hHs3.out.1
                obtain ⟨b, off, rfl, hb, hcx⟩ := hHs3.out.2 (by omega)
                have hR : Hid (wr.rangeAt b off (bv x.1)) := Lib.hid (by have := hcx 0 (by simp); rwa [Nat.zero_mul, Nat.add_zero] at this)
                clear hcx
                have hlx := Lib.hid x.2
                go_wp2_with (first | (refine x_ld Tryd.arrRId rfl _ rfl _ _ rfl x.1 hlx.out hR.out ?_) | (refine x_st0 Tryd.arrRId rfl _ _ rfl _ rfl x.1 rfl hlx.out _ _ hrw.out rfl ?_))
                refine bodyPost_ret (XK.results_arr2 Tryd.arrRId rfl _ _ _ _ x.1 hlx.out rfl (setRow_heap _ _ _ _ _ _ hrw.out)) rfl ⟨?_, below_setRow hBw.out (Nat.le_refl _) _⟩
                rw [hfin.out]; rfl
              | x :: y :: t, hlen, hfin, hHs3 =>
                have hn2 : n3 = t.length + 2 := hHs3.out.1
                have n0 : ((n3 : Int) == 0) = false := by rw [beq_eq_false_iff_ne]; omega
                have n1 : ((n3 : Int) == 1) = false := by rw [beq_eq_false_iff_ne]; omega
                clear hn2
                go_wp2_with (first | (refine x_bz Tryd.arrRId rfl rfl ?_) | (refine x_st0 Tryd.arrRId rfl _ _ rfl _ rfl z32 rfl rfl _ _ hrw.out rfl ?_))
                refine bodyPost_ret (XK.results_arr2 Tryd.arrRId rfl _ _ _ _ z32 rfl rfl (setRow_heap _ _ _ _ _ _ hrw.out)) rfl ⟨?_, below_setRow hBw.out (Nat.le_refl _) _⟩
                rw [hfin.out]; rfl
end Go.Proofs
