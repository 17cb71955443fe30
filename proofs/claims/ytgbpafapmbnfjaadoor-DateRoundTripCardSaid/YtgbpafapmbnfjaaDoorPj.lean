/- Parse, for any text of up to 1000 bytes; IsCanonical -/
import Derived.Test.YtgbpafapmbnfjaaDoorPa
import Derived.Test.YtgbpafapmbnfjaaDoorRd0
import Derived.Test.YtgbpafapmbnfjaaDoorRd1
import Derived.Test.YtgbpafapmbnfjaaDoorRd2
import Derived.Test.YtgbpafapmbnfjaaDoorRd3
import Derived.Test.YtgbpafapmbnfjaaDoorFd
namespace Go.Proofs
open Go.RowKit Go.Shelf Go.Maps
set_option linter.unusedVariables false
set_option linter.unusedSimpArgs false
open TK
theorem Tryd.dRead (X : Nat) (s : ByteArray) (wp w : World) (h0 : Scn w X s (0, 0)) (hb : Below wp.heap.size wp w) (hX : wp.heap.size ≤ X) (hT : Tabs wp) : Calls Tryd.prog 38 #[.pointer (some ⟨X, 0, none⟩)] w fun z w' => z = .returned (rv s) ∧ Below wp.heap.size wp w' ∧ Scn w' X s (r15 s).1 := by
  cases hn : spk isLt s (0, 0)
  · cases h2 : spk isDg s (r2 s).1
    · cases h3 : spk isCo s (r11 s).1
      · exact Tryd.dRead_000 X s wp w h0 hb hX hT hn h2 h3
      · exact Tryd.dRead_001 X s wp w h0 hb hX hT hn h2 h3
    · cases h3 : spk isCo s (r11 s).1
      · exact Tryd.dRead_010 X s wp w h0 hb hX hT hn h2 h3
      · exact Tryd.dRead_011 X s wp w h0 hb hX hT hn h2 h3
  · cases h2 : spk isDg s (r2 s).1
    · cases h3 : spk isCo s (r11 s).1
      · exact Tryd.dRead_100 X s wp w h0 hb hX hT hn h2 h3
      · exact Tryd.dRead_101 X s wp w h0 hb hX hT hn h2 h3
    · cases h3 : spk isCo s (r11 s).1
      · exact Tryd.dRead_110 X s wp w h0 hb hX hT hn h2 h3
      · exact Tryd.dRead_111 X s wp w h0 hb hX hT hn h2 h3
namespace TK
def zgood (D : DataW Empty) : Prop := IsMap D ∧ ∀ k, ∃ c : Int, D.atKey k (.lit (.int .i64 0)) = .lit (.int .i64 c) ∧ -1000 ≤ c ∧ c ≤ 1000
theorem zgood_put {D : DataW Empty} (h : zgood D) (u : List UInt8) (c : Int) (h0 : -1000 ≤ c) (h1 : c ≤ 1000) : zgood (zput D u c) := by
  refine ⟨h.1.put _ _, fun k => ?_⟩
  by_cases hk : k = .string u
  · subst hk
    exact ⟨c, atKey_put_same h.1 (show WideAt.IsKeyLit (.string u) from trivial) _ _, h0, h1⟩
  · obtain ⟨d, hd, a, b⟩ := h.2 k
    exact ⟨d, (atKey_put_other hk _ _).trans hd, a, b⟩
theorem zgood_zD : zgood zD := by
  unfold zD
  have h0 : zgood (.map []) := ⟨isMap_empty, fun k => ⟨0, rfl, by decide, by decide⟩⟩
  exact zgood_put (zgood_put (zgood_put (zgood_put (zgood_put (zgood_put (zgood_put (zgood_put (zgood_put (zgood_put (zgood_put (zgood_put h0 _ _ (by decide) (by decide)) _ _ (by decide) (by decide)) _ _ (by decide) (by decide)) _ _ (by decide) (by decide)) _ _ (by decide) (by decide)) _ _ (by decide) (by decide)) _ _ (by decide) (by decide)) _ _ (by decide) (by decide)) _ _ (by decide) (by decide)) _ _ (by decide) (by decide)) _ _ (by decide) (by decide)) _ _ (by decide) (by decide)
theorem zone_bd (s : ByteArray) : -1000 ≤ (zone s).1 ∧ (zone s).1 ≤ 1000 := by
  unfold zone
  split
  · show -1000 ≤ zc s ∧ zc s ≤ 1000
    obtain ⟨c, hc, a, b⟩ := zgood_zD.2 (.string (zup s).data.toList)
    unfold zc
    rw [hc]
    exact ⟨a, b⟩
  · unfold zrest
    split
    · split
      · exact ⟨by decide, by decide⟩
      · split
        · exact ⟨by decide, by decide⟩
        · split
          · exact ⟨by decide, by decide⟩
          · split
            · dsimp only; omega
            · dsimp only; omega
    · exact ⟨by decide, by decide⟩
theorem r15_bd (s : ByteArray) : -1000 ≤ (r15 s).2 ∧ (r15 s).2 ≤ 1000 := by
  have h := zone_bd (s.extract (r14 s).1 s.size)
  unfold r15
  generalize r14 s = x at h ⊢
  split
  · exact h
  · exact ⟨(show (-1000 : Int) ≤ 0 by decide), (show (0 : Int) ≤ 1000 by decide)⟩
theorem r1_bd (s : ByteArray) : (r1 s).2 ≤ 1000 := by
  unfold r1
  split
  · rename_i hq
    clear hq
    have h : (r0 s).2 < 7 := sname_lt _ _ _ (by decide)
    show (r0 s).2 ≤ 1000
    omega
  · exact Nat.zero_le _
def parsev (s : ByteArray) : Value := .tuple #[.int .i64 (parse s).1, .int .i64 ((parse s).2.1 : Int), .int .i64 ((parse s).2.2 : Int)]
end TK
theorem Tryd.dParse (s : ByteArray) (hz : s.size ≤ 1000) (w : World) (hT : Tabs w) : Calls Tryd.prog 20 #[.string s] w fun z w' => z = .returned (parsev s) ∧ Below w.heap.size w w' := by
  by_cases hs : 64 < s.size
  · exact Tryd.dParse_long s hs hz w
  · have a1 := r3_bd s
    have a2 := r5_bd s
    have a3 := r7_bd s
    have a4 := r9_bd s
    have a5 := r11_bd s
    have a6 := r12_bd s
    have a7 := r15_bd s
    have a8 := r1_bd s
    have hR : ∀ _ : Unit, pz (r15 s).1 (spk isLt s (0, 0)) (r1 s).2 (r1 s).1.1 (r6 s).1 (r8 s).1 (r10 s).1 (r12 s).2.2 (r7 s).2 (1 + ((r5 s).2 : Int)) (r3 s).2 (r9 s).2 (r11 s).2 (r12 s).2.1 (r15 s).2 = parse s := fun _ => by
      unfold parse
      rw [if_neg hs]
    exact Tryd.dParse_x s (by omega) _ _ _ _ _ _ _ _ _ _ _ _ _ _ _ (r1_le s) (r6_le s) (r8_le s) (r10_le s) (r12_le s) (by omega) (by omega) (by omega) (by omega) (by omega) (by omega) (by omega) (by omega) w (fun X W h0 hb hX => Tryd.dRead X s w W h0 hb hX hT) hT (parse s) hR
end Go.Proofs
