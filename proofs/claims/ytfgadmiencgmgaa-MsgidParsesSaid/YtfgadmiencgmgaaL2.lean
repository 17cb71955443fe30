/- the law MsgidParses: for every string it answers true; it leaves all that was there as it was -/
import Derived.Test.YtfgadmiencgmgaaKnown
namespace Go.Proofs
open Go.RowKit XK
set_option linter.unusedSimpArgs false
set_option linter.unusedVariables false
/-- what Parse answers is read off its value -/
theorem XK.pval_of (t : List UInt8) : ∃ (l : List UInt8) (a e : Int), XK.pval t = .tuple #[.agg (bv l).toArray, .int .i64 a, .int .i64 e] ∧ l.length = 32 ∧ ((e == 0) = true ∧ MsgPure.prn l = t ∨ (e == 0) = false ∧ True) := by
  refine ⟨(MsgPure.parse t).id, ((MsgPure.parse t).at_ : Int), ((MsgPure.parse t).e : Int), rfl, MsgPure.parse_id_length t, ?_⟩
  by_cases h : (MsgPure.parse t).e = 0
  · exact .inl ⟨by simp [h], MsgPure.prn_parse h⟩
  · exact .inr ⟨by simp; omega, trivial⟩
set_option maxRecDepth 100000 in
set_option maxHeartbeats 1000000 in
theorem Try.msgidParses (s0 : ByteArray) (h0 : s0.size ≤ 9223372036854775807) (w : World) : Calls Try.prog 4 #[.string s0] w fun e w' => e = .returned (.bool true) ∧ Below w.heap.size w w' := by
  obtain ⟨s, hs⟩ : ∃ s : ByteArray, s0.extract 0 (min (s0.size : Int) 200).toNat = s := ⟨_, rfl⟩
  have hsz : s.size ≤ 9223372036854775807 := by rw [← hs, ByteArray.size_extract]; omega
  have hpa := fun W => Try.parse s hsz W
  have hrp := fun W => Try.rParse s hsz W
  obtain ⟨l, a, e, hv, hl, hc⟩ := XK.pval_of s.data.toList
  rw [hv] at hpa hrp
  have c0 := Try.known
  rcases hc with ⟨hc, hp⟩ | ⟨hc, -⟩
  · have hpr := Try.print l hl
    rw [hp, show (⟨s.data.toList.toArray⟩ : ByteArray) = s from rfl] at hpr
    have hLl := Lib.hid hl
    have he : (e != 0) = false := by simp [bne, hc]
    clear hl hp hv
    go_enter Try.func4, Try.ntmps4
    go_wp2_with fail
    refine (hpa _).mono ?_
    rintro e w1 ⟨rfl, hb1⟩
    clear hs
    go_wp2_with (first
      | (refine x_al Try.arrId rfl rfl ?_)
      | (refine x_stn Try.arrId rfl _ _ rfl rfl _ rfl hLl.out _ _ rfl ?_))
    refine (hrp _).mono ?_
    rintro e w2 ⟨rfl, hb2⟩
    go_wp2_with (first
      | (refine x_al Try.arrRId rfl rfl ?_)
      | (refine x_stn Try.arrRId rfl _ _ rfl rfl _ rfl hLl.out _ _ rfl ?_))
    refine (c0 _).mono ?_
    rintro e w3 ⟨rfl, hb3⟩
    have e1 := hb1.size
    have e2 := hb2.size
    simp at e2
    have e3 := hb3.size
    simp at e3
    have hr1 : w3.heap[w1.heap.size]? = some (.cells (bv l).toArray 23 (0, 0)) := (hb3.block _ (by simp; omega)).trans ((Go.heap_alloc_old _ _ (by omega)).trans ((hb2.block _ (by simp)).trans (Go.heap_alloc_new w1 _)))
    have hr2 : w3.heap[w2.heap.size]? = some (.cells (bv l).toArray 30 (0, 0)) := (hb3.block _ (by simp)).trans (Go.heap_alloc_new w2 _)
    go_wp2_with (first
      | (refine x_ld (e := 5) ?_ rfl _ rfl _ _ rfl l hLl.out ?_ ?_; (first | exact Try.arrId | exact Try.arrRId); (first | exact fun j v hj => (by rw [Go.cell_of_row _ _ _ _ _ _ hr1]; simpa using hj) | exact fun j v hj => (by rw [Go.cell_of_row _ _ _ _ _ _ hr2]; simpa using hj)))
      | (refine x_eqt (e := 5) ?_ rfl _ _ _ rfl _ _ rfl rfl hLl.out hLl.out true (by simp) ?_; (first | exact Try.arrId | exact Try.arrRId))
      | (go_at_call 11; refine (hpr _).mono ?_; rintro e w4 ⟨rfl, hb4⟩))
    go_ret
    refine ⟨rfl, ?_⟩
    exact ((((hb1.alloc (by omega) _).trans (hb2.mono (by simp; omega))).alloc (by omega) _).trans (hb3.mono (by simp; omega))).trans (hb4.mono (by omega))
  · have hLl := Lib.hid hl
    have he : (e != 0) = true := by simp [bne, hc]
    clear hl hv
    go_enter Try.func4, Try.ntmps4
    go_wp2_with fail
    refine (hpa _).mono ?_
    rintro e w1 ⟨rfl, hb1⟩
    clear hs
    go_wp2_with (first
      | (refine x_al Try.arrId rfl rfl ?_)
      | (refine x_stn Try.arrId rfl _ _ rfl rfl _ rfl hLl.out _ _ rfl ?_))
    refine (hrp _).mono ?_
    rintro e w2 ⟨rfl, hb2⟩
    go_wp2_with (first
      | (refine x_al Try.arrRId rfl rfl ?_)
      | (refine x_stn Try.arrRId rfl _ _ rfl rfl _ rfl hLl.out _ _ rfl ?_))
    refine (c0 _).mono ?_
    rintro e w3 ⟨rfl, hb3⟩
    have e1 := hb1.size
    have e2 := hb2.size
    simp at e2
    have e3 := hb3.size
    simp at e3
    have hr1 : w3.heap[w1.heap.size]? = some (.cells (bv l).toArray 23 (0, 0)) := (hb3.block _ (by simp; omega)).trans ((Go.heap_alloc_old _ _ (by omega)).trans ((hb2.block _ (by simp)).trans (Go.heap_alloc_new w1 _)))
    have hr2 : w3.heap[w2.heap.size]? = some (.cells (bv l).toArray 30 (0, 0)) := (hb3.block _ (by simp)).trans (Go.heap_alloc_new w2 _)
    go_wp2_with (first
      | (refine x_ld (e := 5) ?_ rfl _ rfl _ _ rfl l hLl.out ?_ ?_; (first | exact Try.arrId | exact Try.arrRId); (first | exact fun j v hj => (by rw [Go.cell_of_row _ _ _ _ _ _ hr1]; simpa using hj) | exact fun j v hj => (by rw [Go.cell_of_row _ _ _ _ _ _ hr2]; simpa using hj)))
      | (refine x_eqt (e := 5) ?_ rfl _ _ _ rfl _ _ rfl rfl hLl.out hLl.out true (by simp) ?_; (first | exact Try.arrId | exact Try.arrRId)))
    go_ret
    refine ⟨rfl, ?_⟩
    exact (((hb1.alloc (by omega) _).trans (hb2.mono (by simp; omega))).alloc (by omega) _).trans (hb3.mono (by simp; omega))
end Go.Proofs
