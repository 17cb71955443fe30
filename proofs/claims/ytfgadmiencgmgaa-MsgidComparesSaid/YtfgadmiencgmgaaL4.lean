/- the law MsgidCompares: for every two identities and every change it answers true; it leaves all that was there as it was -/
import Derived.Test.YtfgadmiencgmgaaCmp
import Derived.Test.YtfgadmiencgmgaaQuiet
import Derived.WalkLawsBesides
import Derived.BigQuiet
import Derived.Laws.Closers25b
namespace Go.Proofs
open Go.RowKit XK
set_option linter.unusedSimpArgs false
set_option linter.unusedVariables false
/-- the worlds in which three arrays lie where they lay -/
theorem XK.class3 {V : World} {A B D : Nat} {a b d : List UInt8} (hA : A < V.heap.size) (hB : B < V.heap.size) (hD : D < V.heap.size) (h1 : V.rangeAt A 0 (bv a)) (h2 : V.rangeAt B 0 (bv b)) (h3 : V.rangeAt D 0 (bv d)) :
    ∃ C : World → Prop, C V ∧ C { V with drawn := V.drawn + 1 } ∧ (∀ w, C w → C { w with drawn := w.drawn + 1 }) ∧ (∀ w, C w → Below V.heap.size V w) ∧ (∀ w w', C w → Below w.heap.size w w' → C w') ∧ (∀ w, C w → w.rangeAt A 0 (bv a)) ∧ (∀ w, C w → w.rangeAt B 0 (bv b)) ∧ (∀ w, C w → w.rangeAt D 0 (bv d)) := by
  have key : ∀ (w : World) (E : Nat) (e : List UInt8), Below V.heap.size V w → E < V.heap.size → V.rangeAt E 0 (bv e) → w.rangeAt E 0 (bv e) := fun w E e hb hE h j v hj => by
    rw [hb.cell (show (⟨E, 0 + j, none⟩ : Addr).block < V.heap.size from hE)]
    exact h j v hj
  refine ⟨fun w => Below V.heap.size V w, Below.refl _ _, (Below.refl _ _).drew, fun w h => h.drew, fun w h => h, fun w w' h hb => h.trans (hb.mono h.size), fun w h => key w _ _ h hA h1, fun w h => key w _ _ h hB h2, fun w h => key w _ _ h hD h3⟩
theorem XK.xor_byte (z y : UInt8) : ∃ v : UInt8, bits .xor .u8 (z.toNat : Int) (y.toNat : Int) = (v.toNat : Int) := by
  have h := bits_within .xor .u8 (z.toNat : Int) (y.toNat : Int)
  have hmin : IntKind.u8.min = 0 := rfl
  have hmax : IntKind.u8.max = 255 := rfl
  rw [hmin, hmax] at h
  refine ⟨UInt8.ofNat (bits .xor .u8 (z.toNat : Int) (y.toNat : Int)).toNat, ?_⟩
  rw [UInt8.toNat_ofNat', Nat.mod_eq_of_lt (by omega), Int.toNat_of_nonneg h.1]
set_option maxRecDepth 100000 in
set_option maxHeartbeats 4000000 in
theorem Try.msgidCompares (a c : List UInt8) (ha : a.length = 32) (hc : c.length = 32) (p y : UInt8) (w : World) :
    Calls Try.prog 6 #[.agg (bv a).toArray, .agg (bv c).toArray, .agg #[.int .u8 p.toNat, .int .u8 y.toNat]] w fun e w' => e = .returned (.bool true) ∧ Below w.heap.size w w' := by
  obtain ⟨i, hi⟩ : ∃ i, p.toNat % 32 = i := ⟨_, rfl⟩
  have hi32 : i < 32 := by omega
  have hwr : wrap64 (p.toNat : Int) = p.toNat := by have := p.toNat_lt; unfold wrap64; omega
  have hi0 : (0 : Int) ≤ i := by omega
  have hi1 : (i : Int) < 32 := by omega
  have hin : (i : Int).toNat = i := by omega
  have hrem : (p.toNat : Int) % 32 = i := by omega
  obtain ⟨z, hz⟩ : ∃ z, z = a.getD i 0 := ⟨_, rfl⟩
  have c0 := Try.known
  have hLa := Lib.hid ha
  have hLc := Lib.hid hc
  clear ha hc
  go_enter Try.func6, Try.ntmps6
  go_wp2_with (refine x_bx rfl _ rfl _ rfl ?_)
  go_quiet (fail)
  generalize hW : World.drewN _ nq = W
  have hs0 : w.heap.size + 3 ≤ W.heap.size := by rw [← hW]; simp [World.drewN]
  have hra : W.heap[w.heap.size]? = some (.cells (bv a).toArray 23 (0, 0)) := by
    rw [← hW]; exact (Go.heap_alloc_old _ _ (by simp; omega)).trans ((Go.heap_alloc_old _ _ (by simp)).trans (Go.heap_alloc_new w _))
  have hrc : W.heap[w.heap.size + 1]? = some (.cells (bv c).toArray 23 (0, 0)) := by
    rw [← hW]
    have h1 : (w.alloc (.cells (bv a).toArray 23)).heap.size = w.heap.size + 1 := by simp
    exact (Go.heap_alloc_old _ _ (by simp)).trans (h1 ▸ Go.heap_alloc_new (w.alloc (.cells (bv a).toArray 23)) _)
  have hbw : Below w.heap.size w W := by
    rw [← hW]; exact XK.below_drewN ((((Below.refl _ w).alloc (Nat.le_refl _) _).alloc (by simp) _).alloc (by simp; omega) _) _
  clear hW
  have hca : (bv a)[i]? = some (.int .u8 z.toNat) := by
    have := bv_get a i (by rw [hLa.out]; exact hi32)
    rw [← hz] at this
    exact this
  have hHz := Lib.hid hz
  clear hz
  go_wp2_with (first
    | (refine x_ld Try.arrId rfl _ rfl _ _ rfl a hLa.out ?_ ?_; exact fun j v hj => (by rw [Go.cell_of_row _ _ _ _ _ _ hra]; simpa using hj))
    | (refine x_al Try.arrId rfl rfl ?_)
    | (refine x_stn Try.arrId rfl _ _ rfl rfl a rfl hLa.out _ _ rfl ?_))
  obtain ⟨v, hv⟩ := XK.xor_byte z y
  rw [hv, show ((bv a).set i (.int .u8 (v.toNat : Int))).toArray = (bv (a.set i v)).toArray by simp [bv, Lib.byteCells, List.map_set]]
  obtain ⟨b, hb⟩ : ∃ b, b = a.set i v := ⟨_, rfl⟩
  have hLb : Hid (b.length = 32) := Lib.hid (by rw [hb, List.length_set]; exact hLa.out)
  rw [← hb]
  clear hb hca hHz hv
  have hrb : (W.alloc (.cells (bv b).toArray 23)).heap[W.heap.size]? = some (.cells (bv b).toArray 23 (0, 0)) := Go.heap_alloc_new W _
  have hra' := (Go.heap_alloc_old W (.cells (bv b).toArray 23) (by omega)).trans hra
  have hrc' := (Go.heap_alloc_old W (.cells (bv b).toArray 23) (by omega)).trans hrc
  have hsB : W.heap.size < (W.alloc (.cells (bv b).toArray 23)).heap.size := by simp
  have hbw1 := hbw.alloc (by omega) (.cells (bv b).toArray 23)
  generalize W.alloc (.cells (bv b).toArray 23) = V at hrb hra' hrc' hsB hbw1 ⊢
  generalize W.heap.size = B at hs0 hrb hsB ⊢
  have hA : w.heap.size < V.heap.size := by omega
  have hC : w.heap.size + 1 < V.heap.size := by omega
  obtain ⟨C, hC0, hC1, hCd, hCV, hCb, hCa, hCB, hCc⟩ := XK.class3 (V := V) (a := a) (b := b) (d := c) hA hsB hC
    (fun j v hj => (by rw [Go.cell_of_row _ _ _ _ _ _ hra']; simpa using hj)) (fun j v hj => (by rw [Go.cell_of_row _ _ _ _ _ _ hrb]; simpa using hj)) (fun j v hj => (by rw [Go.cell_of_row _ _ _ _ _ _ hrc']; simpa using hj))
  clear hra hrc hbw hra' hrc' hrb
  have hpa := Try.print a hLa.out
  have hpb := Try.print b hLb.out
  obtain ⟨sa, hsa⟩ : ∃ s : ByteArray, s = ⟨(MsgPure.prn a).toArray⟩ := ⟨_, rfl⟩
  obtain ⟨sb, hsb⟩ : ∃ s : ByteArray, s = ⟨(MsgPure.prn b).toArray⟩ := ⟨_, rfl⟩
  rw [← hsa] at hpa
  rw [← hsb] at hpb
  have hl1 : Op.bytesLess sa.toList sb.toList = decide (Lib.compareBytes a b = -1) := by
    rw [ByteArray.toList_eq, ByteArray.toList_eq, hsa, hsb]; exact XK.less_prn (hLa.out.trans hLb.out.symm)
  have hl2 : Op.bytesLess sb.toList sa.toList = decide (Lib.compareBytes b a = -1) := by
    rw [ByteArray.toList_eq, ByteArray.toList_eq, hsa, hsb]; exact XK.less_prn (hLb.out.trans hLa.out.symm)
  have hl3 : (sa.toList == sb.toList) = decide (Lib.compareBytes a b = 0) := by
    rw [ByteArray.toList_eq, ByteArray.toList_eq, hsa, hsb]; exact XK.eq_prn hLa.out hLb.out
  clear hsa hsb
  have hpa' := fun w hw => (hpa w).mono fun e w' (h : e = _ ∧ _) => (⟨h.1, hCb w w' hw h.2⟩ : _ ∧ C w')
  have hpb' := fun w hw => (hpb w).mono fun e w' (h : e = _ ∧ _) => (⟨h.1, hCb w w' hw h.2⟩ : _ ∧ C w')
  refine q_region C (by kernel_rfl) (by kernel_rfl) hC1 ?_
  repeat (first
    | (refine q_ld Try.arrId _ rfl rfl _ _ rfl a hLa.out hCa ?_)
    | (refine q_ld Try.arrId _ rfl rfl _ _ rfl b hLb.out hCB ?_)
    | (refine wpQuiet_step (fun K hK => ?_)
       go_simp
       first
       | (refine hK _ ?_; clear hK K)
       | (apply Exists.intro
          refine ⟨fun W hW => ?_, hK _ ?_⟩
          first
          | exact rfl
          | exact ⟨rfl, rfl⟩
          | (with_reducible exact hpa' W hW)
          | (with_reducible exact hpb' W hW)
          clear hK K)))
  refine wpQuiet_nil ?_
  intro V2 hV2
  have hcm : ∀ w, C w → Calls Try.prog 17 #[.agg (bv a).toArray, .agg (bv b).toArray] w fun e w' => e = .returned (.int .i64 (Lib.compareBytes a b)) ∧ C w' :=
    fun w hw => (Try.compare a b hLa.out hLb.out w).mono fun e w' h => ⟨h.1, hCb w w' hw h.2⟩
  have hcn : ∀ w, C w → Calls Try.prog 17 #[.agg (bv b).toArray, .agg (bv a).toArray] w fun e w' => e = .returned (.int .i64 (Lib.compareBytes b a)) ∧ C w' :=
    fun w hw => (Try.compare b a hLb.out hLa.out w).mono fun e w' h => ⟨h.1, hCb w w' hw h.2⟩
  obtain ⟨kc, hkc⟩ : ∃ k, k = Lib.compareBytes a c := ⟨_, rfl⟩
  have hcx : ∀ w, C w → Calls Try.prog 17 #[.agg (bv a).toArray, .agg (bv c).toArray] w fun e w' => e = .returned (.int .i64 kc) ∧ C w' :=
    fun w hw => (Try.compare a c hLa.out hLc.out w).mono fun e w' h => ⟨by rw [hkc]; exact h.1, hCb w w' hw h.2⟩
  have hcr : ∀ w, C w → Calls Try.prog 18 #[.agg (bv a).toArray, .agg (bv c).toArray] w fun e w' => e = .returned (.int .i64 kc) ∧ C w' :=
    fun w hw => (Try.rCompare a c hLa.out hLc.out w).mono fun e w' h => ⟨by rw [hkc]; exact h.1, hCb w w' hw h.2⟩
  obtain ⟨iz, hiz⟩ : ∃ k, (a == z32) = k := ⟨_, rfl⟩
  have hcz : ∀ w, C w → Calls Try.prog 16 #[.agg (bv a).toArray] w fun e w' => e = .returned (.bool iz) ∧ C w' :=
    fun w hw => (Try.isZero a hLa.out w).mono fun e w' h => ⟨by rw [← hiz]; exact h.1, hCb w w' hw h.2⟩
  have hck : ∀ w, C w → Calls Try.prog 13 #[] w fun e w' => e = .returned (.bool true) ∧ C w' :=
    fun w hw => (c0 w).mono fun e w' h => ⟨h.1, hCb w w' hw h.2⟩
  have hdone : ∀ w', C w' → Below w.heap.size w w' := fun w' h => hbw1.trans ((hCV w' h).mono (by omega))
  have hHiz := Lib.hid hiz
  have hneg := XK.cmp_neg a b
  clear hiz hkc hpa hpb hpa' hpb' c0 hbw1 hCV hCb hC0 hC1
  have w1 : IntKind.i64.wrap 1 = 1 := by rfl
  have w2 : IntKind.i64.wrap 0 = 0 := by rfl
  have w3 : IntKind.i64.wrap (-1) = -1 := by rfl
  rcases XK.cmp_three a b with hk | hk | hk
  · rw [hk] at hneg hcm hl1 hl3
    rw [hneg] at hcn hl2
    clear hk hneg
    rw [show decide ((-1 : Int) = -1) = true from rfl] at hl1
    rw [show decide ((-1 : Int) = 0) = false from rfl] at hl3
    rw [show decide (-(-1 : Int) = -1) = false from rfl] at hl2
    rw [show (-(-1 : Int)) = 1 from rfl] at hcn
    go_wp2
    refine q_region C (by kernel_rfl) (by kernel_rfl) (hCd _ hV2) ?_
    repeat (first
      | (refine q_ld Try.arrId _ rfl rfl _ _ rfl a hLa.out hCa ?_)
      | (refine q_ld Try.arrId _ rfl rfl _ _ rfl b hLb.out hCB ?_)
      | (refine q_ld Try.arrId _ rfl rfl _ _ rfl c hLc.out hCc ?_)
      | (refine q_bz Try.arrId rfl rfl ?_)
      | (refine q_eqt Try.arrId _ _ _ rfl rfl a z32 rfl rfl hLa.out rfl iz hHiz.out ?_)
      | (refine wpQuiet_step (fun K hK => ?_)
         go_simp
         first
         | (refine hK _ ?_; clear hK K)
         | (apply Exists.intro
            refine ⟨fun W hW => ?_, hK _ ?_⟩
            first
            | exact rfl
            | exact ⟨rfl, rfl⟩
            | (with_reducible exact hck W hW)
            | (with_reducible exact hcm W hW)
            | (with_reducible exact hcn W hW)
            | (with_reducible exact hcx W hW)
            | (with_reducible exact hcr W hW)
            | (with_reducible exact hcz W hW)
            clear hK K)))
    refine wpQuiet_nil ?_
    intro V3 hV3
    go_wp2
    go_ret
    exact ⟨rfl, hdone _ hV3⟩
  · rw [hk] at hneg hcm hl1 hl3
    rw [hneg] at hcn hl2
    clear hk hneg
    rw [show decide ((0 : Int) = -1) = false from rfl] at hl1
    rw [show decide ((0 : Int) = 0) = true from rfl] at hl3
    rw [show decide (-(0 : Int) = -1) = false from rfl] at hl2
    rw [show (-(0 : Int)) = 0 from rfl] at hcn
    go_wp2
    refine q_region C (by kernel_rfl) (by kernel_rfl) (hCd _ hV2) ?_
    repeat (first
      | (refine q_ld Try.arrId _ rfl rfl _ _ rfl a hLa.out hCa ?_)
      | (refine q_ld Try.arrId _ rfl rfl _ _ rfl b hLb.out hCB ?_)
      | (refine q_ld Try.arrId _ rfl rfl _ _ rfl c hLc.out hCc ?_)
      | (refine q_bz Try.arrId rfl rfl ?_)
      | (refine q_eqt Try.arrId _ _ _ rfl rfl a z32 rfl rfl hLa.out rfl iz hHiz.out ?_)
      | (refine wpQuiet_step (fun K hK => ?_)
         go_simp
         first
         | (refine hK _ ?_; clear hK K)
         | (apply Exists.intro
            refine ⟨fun W hW => ?_, hK _ ?_⟩
            first
            | exact rfl
            | exact ⟨rfl, rfl⟩
            | (with_reducible exact hck W hW)
            | (with_reducible exact hcm W hW)
            | (with_reducible exact hcn W hW)
            | (with_reducible exact hcx W hW)
            | (with_reducible exact hcr W hW)
            | (with_reducible exact hcz W hW)
            clear hK K)))
    refine wpQuiet_nil ?_
    intro V3 hV3
    go_wp2
    go_ret
    exact ⟨rfl, hdone _ hV3⟩
  · rw [hk] at hneg hcm hl1 hl3
    rw [hneg] at hcn hl2
    clear hk hneg
    rw [show decide ((1 : Int) = -1) = false from rfl] at hl1
    rw [show decide ((1 : Int) = 0) = false from rfl] at hl3
    rw [show decide (-(1 : Int) = -1) = true from rfl] at hl2
    go_wp2
    refine q_region C (by kernel_rfl) (by kernel_rfl) (hCd _ hV2) ?_
    repeat (first
      | (refine q_ld Try.arrId _ rfl rfl _ _ rfl a hLa.out hCa ?_)
      | (refine q_ld Try.arrId _ rfl rfl _ _ rfl b hLb.out hCB ?_)
      | (refine q_ld Try.arrId _ rfl rfl _ _ rfl c hLc.out hCc ?_)
      | (refine q_bz Try.arrId rfl rfl ?_)
      | (refine q_eqt Try.arrId _ _ _ rfl rfl a z32 rfl rfl hLa.out rfl iz hHiz.out ?_)
      | (refine wpQuiet_step (fun K hK => ?_)
         go_simp
         first
         | (refine hK _ ?_; clear hK K)
         | (apply Exists.intro
            refine ⟨fun W hW => ?_, hK _ ?_⟩
            first
            | exact rfl
            | exact ⟨rfl, rfl⟩
            | (with_reducible exact hck W hW)
            | (with_reducible exact hcm W hW)
            | (with_reducible exact hcn W hW)
            | (with_reducible exact hcx W hW)
            | (with_reducible exact hcr W hW)
            | (with_reducible exact hcz W hW)
            clear hK K)))
    refine wpQuiet_nil ?_
    intro V3 hV3
    go_wp2
    go_ret
    exact ⟨rfl, hdone _ hV3⟩
end Go.Proofs
