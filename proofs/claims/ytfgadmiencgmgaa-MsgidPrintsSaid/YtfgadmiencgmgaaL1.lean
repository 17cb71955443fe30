/- the law MsgidPrints: for every identity it answers true; it leaves all that was there as it was -/
import Derived.Test.YtfgadmiencgmgaaKnown
namespace Go.Proofs
open Go.RowKit XK
set_option maxRecDepth 100000 in
set_option maxHeartbeats 1000000 in
theorem Try.msgidPrints (l : List UInt8) (hl : l.length = 32) (w : World) : Calls Try.prog 3 #[.agg (bv l).toArray] w fun e w' => e = .returned (.bool true) ∧ Below w.heap.size w w' := by
  obtain ⟨s, hs⟩ : ∃ s : ByteArray, s = ⟨(MsgPure.prn l).toArray⟩ := ⟨_, rfl⟩
  have hsl : s.data.toList = MsgPure.prn l := by rw [hs]
  have hpr := Try.print l hl
  have hrp := Try.rPrint l hl
  rw [← hs] at hpr hrp
  have hsz : s.size = 71 := by
    have := MsgPure.prn_length hl
    rw [← hsl, Array.length_toList] at this
    exact this
  have hpa := fun W => Try.parse s (by omega) W
  rw [hsl, XK.pval_prn l hl] at hpa
  have hLl := Lib.hid hl
  clear hs hsl hsz hl
  have c0 := Try.known
  go_enter Try.func3, Try.ntmps3
  go_wp2_with (first
    | (go_at_call 11; refine (hpr _).mono ?_; rintro e w1 ⟨rfl, hb1⟩)
    | (go_at_call 12; refine (hpa _).mono ?_; rintro e w2 ⟨rfl, hb2⟩)
    | (refine x_ld Try.arrId rfl _ rfl _ _ rfl l hLl.out ?_ ?_; exact fun j v hj => by simpa using hj)
    | (refine x_ld Try.arrId rfl _ rfl _ _ rfl l hLl.out ?_ ?_; exact fun j v hj => by rw [Go.cell_of_row _ _ _ _ _ _ hr1]; simpa using hj)
    | (refine x_ld Try.arrId rfl _ rfl _ _ rfl l hLl.out ?_ ?_; exact fun j v hj => by rw [Go.cell_of_row _ _ _ _ _ _ hr2]; simpa using hj)
    | (refine x_ld Try.arrId rfl _ rfl _ _ rfl l hLl.out ?_ ?_; exact fun j v hj => by rw [Go.cell_of_row _ _ _ _ _ _ hr4]; simpa using hj)
    | (refine x_ld Try.arrId rfl _ rfl _ _ rfl l hLl.out ?_ ?_; exact fun j v hj => by rw [Go.cell_of_row _ _ _ _ _ _ hr5]; simpa using hj)
    | (refine x_al Try.arrId rfl rfl ?_)
    | (refine x_stn Try.arrId rfl _ _ rfl rfl _ rfl hLl.out _ _ rfl ?_)
    | (refine x_eqt Try.arrId rfl _ _ _ rfl _ _ rfl rfl hLl.out hLl.out true (by simp) ?_)
    | (go_at_call 14; refine (hrp _).mono ?_; rintro e w4 ⟨rfl, hb4⟩; have hr4 := (hb4.block _ (by omega : w2.heap.size < w3.heap.size)).trans hr2; have hr5 := (hb4.block _ (by omega : w.heap.size < w3.heap.size)).trans hr1)
    | (go_at_call 13; refine (c0 _).mono ?_; rintro e w3 ⟨rfl, hb3⟩; have e1 := hb1.size; simp at e1; have e2 := hb2.size; have e3 := hb3.size; simp at e3; have hr1 : w3.heap[w.heap.size]? = some (.cells (bv l).toArray 23 (0, 0)) := (hb3.block _ (by simp; omega)).trans ((Go.heap_alloc_old _ _ (by omega)).trans ((hb2.block _ (by omega)).trans ((hb1.block _ (by simp)).trans (Go.heap_alloc_new w _)))); have hr2 : w3.heap[w2.heap.size]? = some (.cells (bv l).toArray 23 (0, 0)) := (hb3.block _ (by simp)).trans (Go.heap_alloc_new w2 _)))

  go_ret
  refine ⟨rfl, ?_⟩
  exact ((((((Below.refl _ w).alloc (Nat.le_refl _) _).trans (hb1.mono (by simp))).trans (hb2.mono (by omega))).alloc (by omega) _).trans (hb3.mono (by simp; omega))).trans (hb4.mono (by omega))
end Go.Proofs
