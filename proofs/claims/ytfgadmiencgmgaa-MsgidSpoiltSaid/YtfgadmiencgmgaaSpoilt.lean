/- one byte of an identity's text is changed: the reading fails at this byte or gives another identity; and the steps that convert between text and bytes -/
import Derived.Test.YtfgadmiencgmgaaKnown
import Derived.Lib.ConvBytes
import Derived.Lib.AtoiErrMem
import Derived.Laws.BytesArg
import Derived.Laws.IdiomStrings
namespace Go.Proofs
open Go.RowKit XK
theorem XK.getD_set_ne {l : List UInt8} {i j : Nat} (h : i ≠ j) (c : UInt8) : (l.set i c).getD j 0 = l.getD j 0 := by
  rw [List.getD_eq_getElem?_getD, List.getElem?_set_ne h, ← List.getD_eq_getElem?_getD]
theorem XK.getD_set_eq {l : List UInt8} {i : Nat} (h : i < l.length) (c : UInt8) : (l.set i c).getD i 0 = c := by
  rw [List.getD_eq_getElem?_getD, List.getElem?_set_self h]; rfl
theorem XK.okAt_set_ne {l : List UInt8} {i j : Nat} (h : i ≠ j) (c : UInt8) : MsgPure.okAt (l.set i c) j = MsgPure.okAt l j := by
  unfold MsgPure.okAt
  rw [XK.getD_set_ne h]
  by_cases h0 : j = 0
  · subst h0
    rw [if_pos rfl, if_pos rfl, XK.getD_set_ne h]
  · rw [if_neg h0, if_neg h0]
theorem XK.spoilt {l : List UInt8} (hl : l.length = 32) {i : Nat} (hi : i < 71) {c : UInt8} (hc : (MsgPure.prn l).getD i 0 ≠ c) :
    MsgPure.parse ((MsgPure.prn l).set i c) = ⟨MsgPure.zero, i, 6⟩ ∨ ∃ o, o.length = 32 ∧ o ≠ l ∧ 1 ≤ i ∧ i ≤ 64 ∧ MsgPure.parse ((MsgPure.prn l).set i c) = ⟨o, 0, 0⟩ := by
  have hlen := MsgPure.prn_length hl
  have hlen2 : ((MsgPure.prn l).set i c).length = 71 := by rw [List.length_set, hlen]
  by_cases hok : MsgPure.okAt ((MsgPure.prn l).set i c) i = true
  · right
    have hall : ∀ j, j < 71 → MsgPure.okAt ((MsgPure.prn l).set i c) j = true := fun j hj => by
      by_cases hij : i = j
      · rw [← hij]; exact hok
      · rw [XK.okAt_set_ne hij]; exact MsgPure.okAt_prn hl hj
    have hp := MsgPure.parse_ok hlen2 hall
    have hin : 1 ≤ i ∧ i ≤ 64 := by
      by_cases h : i = 0 ∨ 65 ≤ i
      · exfalso
        have h1 := XK.okAt_form _ i hi h ▸ hok
        have h2 := XK.okAt_form (MsgPure.prn l) i hi h ▸ MsgPure.okAt_prn hl hi
        rw [XK.getD_set_eq (by omega)] at h1
        rw [beq_iff_eq] at h1 h2
        exact hc (h2.trans h1.symm)
      · omega
    refine ⟨_, ?_, ?_, hin.1, hin.2, hp⟩
    · have := MsgPure.parse_id_length ((MsgPure.prn l).set i c)
      rw [hp] at this
      exact this
    · intro he
      have h1 : (MsgPure.parse ((MsgPure.prn l).set i c)).e = 0 := by rw [hp]
      have h2 := MsgPure.prn_parse h1
      rw [hp] at h2
      simp only [he] at h2
      apply hc
      conv => lhs; rw [h2]
      exact XK.getD_set_eq (by omega) c
  · left
    exact MsgPure.parse_bad (by omega) hi (by simpa using hok) fun j hj => by
      rw [XK.okAt_set_ne (by omega)]; exact MsgPure.okAt_prn hl (by omega)
namespace XK
section
variable {P : Program} {ops : Array Oper} {rest : List Oper} {o : Oper} {a : Act} {w : World} {Q : Exit → Act → World → Prop}
/-- a text to bytes -/
theorem x_by (hw : Region.wanted o (yielded ops a.tmps) = true) (src dst e : TypeId) (x : Operand) (ho : o.op = .convert src dst x) (s : ByteArray) (hx : a.eval x = .string s)
    {u : TypeDesc} (hs : P.underlying src = some u) (hd : P.underlying dst = some (.slice e)) (he : P.underlying e = some (.int .u8))
    (h : ∀ cap w', Below w.heap.size w w' → w'.heap.size = w.heap.size + 1 → (∀ j, j < s.size → w'.cell? ⟨w.heap.size, j, none⟩ = some (.int .u8 (s.data.toList.getD j 0).toNat) ∧ w'.frozen? ⟨w.heap.size, j, none⟩ = false) →
      wpList P ops Q rest (a.put o.dst (.slice (some ⟨w.heap.size, 0, none⟩) s.size cap)) w') : wpList P ops Q (o :: rest) a w := by
  refine x_val (w' := Lib.bytesWorld w e s) hw ?_ (h (grownCap w s.size 0 e) _ (Lib.bytesWorld_below w e s) (Lib.bytesWorld_size w e s) fun j hj => ⟨Lib.bytesWorld_cell w e s j hj, ?_⟩)
  · unfold execOp
    simp only [ho, hx]
    rw [Sem.run_bind, Lib.run_convert_string_bytes w src dst e s hs hd he]
    rfl
  · simp only [World.frozen?, Lib.bytesWorld_at_new]
    simp [Lib.bytesCells]
    omega
/-- bytes to a text -/
theorem x_bs (hw : Region.wanted o (yielded ops a.tmps) = true) (src dst e : TypeId) (x : Operand) (ho : o.op = .convert src dst x) (b n cap : Nat) (hx : a.eval x = .slice (some ⟨b, 0, none⟩) n cap) (l : List UInt8) (hl : l.length = n)
    (hs : P.underlying src = some (.slice e)) (hd : P.underlying dst = some .string) (he : P.underlying e = some (.int .u8))
    (hc : ∀ j, j < n → w.cell? ⟨b, j, none⟩ = some (.int .u8 (l.getD j 0).toNat))
    (h : wpList P ops Q rest (a.put o.dst (.string ⟨l.toArray⟩)) w) : wpList P ops Q (o :: rest) a w := by
  subst hl
  refine x_val hw ?_ h
  unfold execOp
  simp only [ho, hx]
  rw [Sem.run_bind, run_convert_bytes_back w src dst e _ cap l hs he hd (fun j hj => by
    rw [Addr.add_mid, Nat.zero_add, hc j hj, List.getD_eq_getElem?_getD, List.getElem?_eq_getElem hj]; rfl)]
  rfl
end
end XK
end Go.Proofs
