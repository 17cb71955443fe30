/- the examples of the document hold: bulletinlaw11.known answers true -/
import Derived.Test.YtfgadmiencgmgaaDoorGA
import Derived.Test.YtfgadmiencgmgaaDoorSite
namespace Go.Proofs
open Go.RowKit XK
namespace Known
def id0 : List UInt8 := z32.set 31 10
def s0 : ByteArray := ⟨(MsgPure.prn id0).toArray⟩
theorem s0_list : s0.data.toList = MsgPure.prn id0 := rfl
theorem pv : XK.pval (MsgPure.prn id0) = .tuple #[.agg (bv id0).toArray, .int .i64 0, .int .i64 0] := by
  rw [XK.pval, MsgPure.parse_prn rfl]; rfl
end Known
theorem XK.pval_prn (l : List UInt8) (h : l.length = 32) : XK.pval (MsgPure.prn l) = .tuple #[.agg (bv l).toArray, .int .i64 0, .int .i64 0] := by
  rw [XK.pval, MsgPure.parse_prn h]; rfl
/-- msgid.Site at the two examples -/
theorem Tryd.siteAb (w : World) : Calls Tryd.prog 22 #[.string ⟨#[97, 46, 46, 98]⟩] w fun e w' => e = .returned (.tuple #[.int .i64 2, .int .i64 12]) ∧ Below w.heap.size w w' :=
  (YtfgadmiencgmgaaDoor.PSite.msgid_Site.calls 10 _ 2 12 w Site.ab).mono fun _ _ ⟨he, hd⟩ => ⟨he, YtfgadmiencgmgaaDoorW.PrintWords.Drawn0.below hd⟩
theorem Tryd.siteNews (w : World) : Calls Tryd.prog 22 #[.string ⟨#[110, 101, 119, 115, 46, 101, 120, 97, 109, 112, 108, 101, 45, 49]⟩] w fun e w' => e = .returned (.tuple #[.int .i64 0, .int .i64 0]) ∧ Below w.heap.size w w' :=
  (YtfgadmiencgmgaaDoor.PSite.msgid_Site.calls 40 _ 0 0 w Site.news).mono fun _ _ ⟨he, hd⟩ => ⟨he, YtfgadmiencgmgaaDoorW.PrintWords.Drawn0.below hd⟩
set_option maxRecDepth 100000 in
set_option maxHeartbeats 1000000 in
theorem Tryd.known (w : World) : Calls Tryd.prog 8 #[] w fun e w' => e = .returned (.bool true) ∧ Below w.heap.size w w' := by
  obtain ⟨s, hs⟩ : ∃ s, s = Known.s0 := ⟨_, rfl⟩
  have hpr := Tryd.print Known.id0 rfl
  rw [show (⟨(MsgPure.prn Known.id0).toArray⟩ : ByteArray) = s from hs.symm] at hpr
  have hpa := fun W => Tryd.parse s (by rw [hs]; decide) W
  rw [hs, Known.s0_list, Known.pv, ← hs] at hpa
  have h71 : ((s.size : Int) == 71) = true := by rw [hs]; rfl
  have hsz : 63 ≤ s.size := by rw [hs]; decide
  have hsi : (63 : Int) ≤ s.size := by omega
  have hsl : ((s.extract 63 s.size).toList == [48, 97, 64, 104, 97, 115, 104, 62]) = true := by rw [hs]; decide +kernel
  clear hs
  have c1 := fun W => Tryd.isZero z32 rfl W
  rw [show (z32 == z32) = true from rfl] at c1
  have c2 := fun W => Tryd.compare z32 (z32.set 0 1) rfl rfl W
  rw [show Lib.compareBytes z32 (z32.set 0 1) = -1 from rfl] at c2
  go_enter Tryd.func8, Tryd.ntmps8
  go_wp2_with (first
    | (refine x_bp Tryd.arrId rfl 31 _ rfl 10 rfl (by decide) ?_)
    | (refine x_bp Tryd.arrId rfl 0 _ rfl 1 rfl (by decide) ?_)
    | (refine x_bz Tryd.arrId rfl rfl ?_)
    | (go_at_call 20; refine (hpr _).mono ?_; rintro e w1 ⟨rfl, hb1⟩)
    | (go_at_call 21; refine (hpa _).mono ?_; rintro e w2 ⟨rfl, hb2⟩)
    | (refine x_al Tryd.arrId rfl rfl ?_)
    | (refine x_stn Tryd.arrId rfl _ _ rfl rfl _ rfl rfl _ _ rfl ?_)
    | (go_at_call 22; (with_reducible refine (Tryd.siteAb _).mono ?_); rintro e w3 ⟨rfl, hb3⟩)
    | (go_at_call 22; (with_reducible refine (Tryd.siteNews _).mono ?_); rintro e w4 ⟨rfl, hb4⟩; have hr4 : w4.heap[w2.heap.size]? = some (.cells (bv Known.id0).toArray 24 (0, 0)) := (hb4.block _ (by have := hb3.size; simp at this; omega)).trans ((hb3.block _ (by simp)).trans (Go.heap_alloc_new w2 _)))
    | (refine x_ld Tryd.arrId rfl _ rfl _ _ rfl Known.id0 rfl ?_ ?_; exact fun j v hj => by rw [Go.cell_of_row _ _ _ _ _ _ hr4]; simpa using hj)
    | (refine x_eqt Tryd.arrId rfl _ _ _ rfl _ _ rfl rfl rfl rfl true rfl ?_)
    | (go_at_call 23; refine (c1 _).mono ?_; rintro e w5 ⟨rfl, hb5⟩)
    | (go_at_call 24; refine (c2 _).mono ?_; rintro e w6 ⟨rfl, hb6⟩))
  go_ret
  refine ⟨rfl, ?_⟩
  have e1 := hb1.size
  have e2 := hb2.size
  have e3 := hb3.size
  have e4 := hb4.size
  have e5 := hb5.size
  simp at e3
  exact ((((hb1.trans (hb2.mono e1)).alloc (by omega) _).trans (hb3.mono (by simp; omega))).trans (hb4.mono (by omega))).trans ((hb5.mono (by omega)).trans (hb6.mono (by omega)))
end Go.Proofs
