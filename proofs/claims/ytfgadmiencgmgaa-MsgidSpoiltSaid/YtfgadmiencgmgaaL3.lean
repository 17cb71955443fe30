/- the law MsgidSpoilt: for every identity, place and byte it answers true; it leaves all that was there as it was -/
import Derived.Test.YtfgadmiencgmgaaSpoilt
namespace Go.Proofs
open Go.RowKit XK
set_option linter.unusedSimpArgs false
set_option linter.unusedVariables false
theorem XK.set_cells {w3 : World} {b : Nat} {t : List UInt8} (htl : t.length = 71) (hc : ∀ j, j < 71 → w3.cell? ⟨b, j, none⟩ = some (.int .u8 (t.getD j 0).toNat) ∧ w3.frozen? ⟨b, j, none⟩ = false) {i : Nat} (hi : i < 71) {c : UInt8} :
    ∀ j, j < 71 → (w3.setCell ⟨b, i, none⟩ (.int .u8 c.toNat)).cell? ⟨b, j, none⟩ = some (.int .u8 ((t.set i c).getD j 0).toNat) := by
  intro j hj
  by_cases h : i = j
  · subst h
    rw [World.cell?_setCell_same _ _ _ (hc i hj).1, XK.getD_set_eq (by omega)]
  · rw [World.cell?_setCell_other _ _ _ _ (fun e => h (by injection e)), (hc j hj).1, XK.getD_set_ne h]
set_option maxRecDepth 100000 in
set_option maxHeartbeats 1000000 in
theorem Try.msgidSpoilt (l : List UInt8) (hl : l.length = 32) (p c : UInt8) (w : World) : Calls Try.prog 5 #[.agg (bv l).toArray, .int .u8 p.toNat, .int .u8 c.toNat] w fun e w' => e = .returned (.bool true) ∧ Below w.heap.size w w' := by
  obtain ⟨i, hi⟩ : ∃ i, p.toNat % 71 = i := ⟨_, rfl⟩
  have hi71 : i < 71 := by omega
  obtain ⟨t, ht⟩ : ∃ t, t = MsgPure.prn l := ⟨_, rfl⟩
  have htl : t.length = 71 := by rw [ht]; exact MsgPure.prn_length hl
  obtain ⟨s, hs⟩ : ∃ s : ByteArray, s = ⟨t.toArray⟩ := ⟨_, rfl⟩
  have hsl : s.data.toList = t := by rw [hs]
  have hsz : s.size = 71 := by rw [← hsl, Array.length_toList] at htl; exact htl
  have hrp := Try.rPrint l hl
  rw [← ht, ← hs] at hrp
  have hrem : (p.toNat : Int) % 71 = i := by omega
  have hwr : wrap64 (p.toNat : Int) = p.toNat := by have := p.toNat_lt; unfold wrap64; omega
  have hi0 : (0 : Int) ≤ i := by omega
  have hi1 : (i : Int) < 71 := by omega
  have hin : (i : Int).toNat = i := by omega
  have hpa := fun W => Try.parse ⟨(t.set i c).toArray⟩ (by show (t.set i c).toArray.size ≤ _; rw [List.size_toArray, List.length_set]; omega) W
  rw [show (⟨(t.set i c).toArray⟩ : ByteArray).data.toList = t.set i c from rfl] at hpa
  have hsp := fun hc => XK.spoilt hl hi71 (c := c) hc
  rw [← ht] at hsp
  obtain ⟨x, hx⟩ : ∃ x, t.getD i 0 = x := ⟨_, rfl⟩
  rw [hx] at hsp
  have hHx := Lib.hid hx
  clear hx
  have c0 := Try.known
  have hLl := Lib.hid hl
  clear hl
  clear ht
  by_cases hxc : x = c
  · have hq : (((x.toNat : Int)) == (c.toNat : Int)) = true := by rw [hxc]; simp
    go_enter Try.func5, Try.ntmps5
    go_wp2_with (first
      | (refine x_bx rfl _ rfl _ rfl ?_)
      | (go_at_call 13; refine (c0 _).mono ?_; rintro e w1 ⟨rfl, hb1⟩; have hr1 := (hb1.block _ (by simp)).trans (Go.heap_alloc_new w _))
      | (refine x_ld Try.arrId rfl _ rfl _ _ rfl l hLl.out ?_ ?_; exact fun j v hj => by rw [Go.cell_of_row _ _ _ _ _ _ hr1]; simpa using hj)
      | (go_at_call 14; refine (hrp _).mono ?_; rintro e w2 ⟨rfl, hb2⟩; clear hs)
      | (refine x_by rfl _ _ _ _ rfl s rfl Try.underlying9 Try.underlying35 Try.underlying5 ?_; intro cap w3 hb3 hz3 hc3; rw [hsz, hsl] at hc3; rw [hsz]; obtain ⟨hx3, hf3⟩ := hc3 i hi71; rw [hHx.out] at hx3; replace hc3 := Lib.hid hc3))
    go_ret
    refine ⟨rfl, ?_⟩
    have e1 := hb1.size
    simp at e1
    exact ((((Below.refl _ w).alloc (Nat.le_refl _) _).trans (hb1.mono (by simp))).trans (hb2.mono (by omega))).trans (hb3.mono (by have := hb2.size; omega))
  · have hq : (((x.toNat : Int)) == (c.toNat : Int)) = false := by
      rw [beq_eq_false_iff_ne]; intro e; exact hxc (UInt8.toNat_inj.1 (by omega))
    rcases hsp hxc with hp | ⟨o, ho, hne, h1, h2, hp⟩
    · rw [show XK.pval (t.set i c) = .tuple #[.agg (bv z32).toArray, .int .i64 i, .int .i64 6] by rw [XK.pval, hp]; rfl] at hpa
      clear hp
      have cz := fun W => Try.isZero z32 rfl W
      rw [show (z32 == z32) = true from rfl] at cz
      go_enter Try.func5, Try.ntmps5
      go_wp2_with (first
        | (refine x_bx rfl _ rfl _ rfl ?_)
        | (go_at_call 13; refine (c0 _).mono ?_; rintro e w1 ⟨rfl, hb1⟩; have hr1 := (hb1.block _ (by simp)).trans (Go.heap_alloc_new w _))
        | (refine x_ld Try.arrId rfl _ rfl _ _ rfl l hLl.out ?_ ?_; exact fun j v hj => by rw [Go.cell_of_row _ _ _ _ _ _ hr1]; simpa using hj)
        | (go_at_call 14; refine (hrp _).mono ?_; rintro e w2 ⟨rfl, hb2⟩; clear hs)
        | (refine x_by rfl _ _ _ _ rfl s rfl Try.underlying9 Try.underlying35 Try.underlying5 ?_; intro cap w3 hb3 hz3 hc3; rw [hsz, hsl] at hc3; rw [hsz]; obtain ⟨hx3, hf3⟩ := hc3 i hi71; rw [hHx.out] at hx3; replace hc3 := Lib.hid hc3)
        | (refine x_bs rfl _ _ _ _ rfl _ 71 cap rfl (t.set i c) (by rw [List.length_set]; exact htl) Try.underlying35 Try.underlying9 Try.underlying5 (XK.set_cells htl hc3.out hi71) ?_)
        | (go_at_call 12; refine (hpa _).mono ?_; rintro e w4 ⟨rfl, hb4⟩; have e1 := hb1.size; simp at e1; have e2 := hb2.size; have e3 := hb3.size; have e4 := hb4.size; simp at e4; have hr4 : w4.heap[w.heap.size]? = some (.cells (bv l).toArray 23 (0, 0)) := (hb4.block _ (by simp; omega)).trans ((Below.heap_setCell _ _ _ _ (by show w.heap.size ≠ w2.heap.size; omega)).trans ((hb3.block _ (by omega)).trans ((hb2.block _ (by omega)).trans hr1))))
        | (refine x_al Try.arrId rfl rfl ?_)
        | (refine x_stn Try.arrId rfl _ _ rfl rfl z32 rfl rfl _ _ rfl ?_)
        | (refine x_ld Try.arrId rfl _ rfl _ _ rfl z32 rfl ?_ ?_; exact fun j v hj => by rw [Go.cell_of_row _ _ _ _ _ _ (Go.heap_alloc_new w4 _)]; simpa using hj)
        | (go_at_call 16; refine (cz _).mono ?_; rintro e w5 ⟨rfl, hb5⟩))
      go_ret
      exact ⟨rfl, ((((((((Below.refl _ w).alloc (Nat.le_refl _) _).trans (hb1.mono (by simp))).trans (hb2.mono (by omega))).trans (hb3.mono (by omega))).setCell (p := ⟨w2.heap.size, i, none⟩) (by show w.heap.size ≤ w2.heap.size; omega) _).trans (hb4.mono (by simp; omega))).alloc (by omega) _).trans (hb5.mono (by simp; omega))⟩
    · rw [show XK.pval (t.set i c) = .tuple #[.agg (bv o).toArray, .int .i64 0, .int .i64 0] by rw [XK.pval, hp]; rfl] at hpa
      clear hp
      have hne' : (o == l) = false := by rw [beq_eq_false_iff_ne]; exact hne
      have h1' : decide ((1 : Int) ≤ i) = true := by simp; omega
      have h2' : decide ((i : Int) ≤ 64) = true := by simp; omega
      have hLo := Lib.hid ho
      clear ho
      go_enter Try.func5, Try.ntmps5
      go_wp2_with (first
        | (refine x_bx rfl _ rfl _ rfl ?_)
        | (go_at_call 13; refine (c0 _).mono ?_; rintro e w1 ⟨rfl, hb1⟩; have hr1 := (hb1.block _ (by simp)).trans (Go.heap_alloc_new w _))
        | (refine x_ld Try.arrId rfl _ rfl _ _ rfl l hLl.out ?_ ?_; exact fun j v hj => by rw [Go.cell_of_row _ _ _ _ _ _ hr1]; simpa using hj)
        | (go_at_call 14; refine (hrp _).mono ?_; rintro e w2 ⟨rfl, hb2⟩; clear hs)
        | (refine x_by rfl _ _ _ _ rfl s rfl Try.underlying9 Try.underlying35 Try.underlying5 ?_; intro cap w3 hb3 hz3 hc3; rw [hsz, hsl] at hc3; rw [hsz]; obtain ⟨hx3, hf3⟩ := hc3 i hi71; rw [hHx.out] at hx3; replace hc3 := Lib.hid hc3)
        | (refine x_bs rfl _ _ _ _ rfl _ 71 cap rfl (t.set i c) (by rw [List.length_set]; exact htl) Try.underlying35 Try.underlying9 Try.underlying5 (XK.set_cells htl hc3.out hi71) ?_)
        | (go_at_call 12; refine (hpa _).mono ?_; rintro e w4 ⟨rfl, hb4⟩; have e1 := hb1.size; simp at e1; have e2 := hb2.size; have e3 := hb3.size; have e4 := hb4.size; simp at e4; have hr4 : w4.heap[w.heap.size]? = some (.cells (bv l).toArray 23 (0, 0)) := (hb4.block _ (by simp; omega)).trans ((Below.heap_setCell _ _ _ _ (by show w.heap.size ≠ w2.heap.size; omega)).trans ((hb3.block _ (by omega)).trans ((hb2.block _ (by omega)).trans hr1))))
        | (refine x_al Try.arrId rfl rfl ?_)
        | (refine x_stn Try.arrId rfl _ _ rfl rfl o rfl hLo.out _ _ rfl ?_)
        | (refine x_ld Try.arrId rfl _ rfl _ _ rfl o hLo.out ?_ ?_; exact fun j v hj => by rw [Go.cell_of_row _ _ _ _ _ _ (Go.heap_alloc_new w4 _)]; simpa using hj)
        | (refine x_ld Try.arrId rfl _ rfl _ _ rfl l hLl.out ?_ ?_; exact fun j v hj => by rw [Go.cell_of_row _ _ _ _ _ _ ((Go.heap_alloc_old w4 _ (by omega)).trans hr4)]; simpa using hj)
        | (refine x_ne Try.arrId rfl _ _ _ rfl o l rfl rfl hLo.out hLl.out ?_; rw [hne', Bool.not_false]))
      go_ret
      exact ⟨rfl, (((((((Below.refl _ w).alloc (Nat.le_refl _) _).trans (hb1.mono (by simp))).trans (hb2.mono (by omega))).trans (hb3.mono (by omega))).setCell (p := ⟨w2.heap.size, i, none⟩) (by show w.heap.size ≤ w2.heap.size; omega) _).trans (hb4.mono (by simp; omega))).alloc (by omega) _⟩
end Go.Proofs
