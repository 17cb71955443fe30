/- the reference's Parse of a message identifier -/
import Derived.Test.YtfgadmiencgmgaaB
import Derived.Laws.CopyOwn
import Derived.IntWalk
namespace Go.Proofs
open Go.RowKit XK
theorem XK.byte_at (s : ByteArray) (k : Nat) (h : k < s.size) : s[k]'h = s.data.toList.getD k 0 := by
  rw [List.getD_eq_getElem?_getD, List.getElem?_eq_getElem (by rw [Array.length_toList]; exact h)]
  rfl
/-- the array behind nd digits -/
def XK.val (s : List UInt8) (nd j : Nat) : Nat :=
  if 2 * j + 1 < nd then 16 * MsgPure.dv (s.getD (2 * j + 1) 0) + MsgPure.dv (s.getD (2 * j + 2) 0) else if 2 * j < nd then MsgPure.dv (s.getD (2 * j + 1) 0) else 0
def XK.idl (s : List UInt8) (nd : Nat) : List UInt8 := (List.range 32).map fun j => UInt8.ofNat (XK.val s nd j)
theorem XK.idl_length (s : List UInt8) (nd : Nat) : (XK.idl s nd).length = 32 := by simp [XK.idl]
theorem XK.idl_zero (s : List UInt8) : XK.idl s 0 = z32 := by simp [XK.idl, XK.val, z32]; decide
theorem XK.idl_get (s : List UInt8) (nd j : Nat) (h : j < 32) : (XK.idl s nd).getD j 0 = UInt8.ofNat (XK.val s nd j) := by
  simp [XK.idl, List.getD_eq_getElem?_getD, h]
/-- one digit more -/
theorem XK.idl_succ (s : List UInt8) (nd : Nat) : XK.idl s (nd + 1) = (XK.idl s nd).set (nd / 2) (UInt8.ofNat (XK.val s nd (nd / 2) * 16 + MsgPure.dv (s.getD (nd + 1) 0))) := by
  apply XK.eq_of_getD 32 (XK.idl_length _ _) (by rw [List.length_set, XK.idl_length])
  intro j hj
  rw [XK.idl_get _ _ _ hj, List.getD_eq_getElem?_getD, List.getElem?_set]
  by_cases hq : nd / 2 = j
  · subst hq
    rw [if_pos rfl, if_pos (by rw [XK.idl_length]; omega)]
    show _ = UInt8.ofNat _
    congr 1
    unfold XK.val
    rcases Nat.mod_two_eq_zero_or_one nd with h2 | h2
    · rw [if_neg (by omega), if_pos (by omega), if_neg (by omega), if_neg (by omega), show 2 * (nd / 2) + 1 = nd + 1 by omega]; omega
    · rw [if_pos (by omega), if_neg (by omega), if_pos (by omega), show 2 * (nd / 2) + 2 = nd + 1 by omega]; omega
  · rw [if_neg hq, ← List.getD_eq_getElem?_getD, XK.idl_get _ _ _ hj]
    congr 1
    unfold XK.val
    by_cases h1 : 2 * j + 1 < nd
    · rw [if_pos h1, if_pos (by omega)]
    · by_cases h2 : 2 * j < nd
      · rw [if_neg h1, if_pos h2]
        by_cases h3 : 2 * j + 1 < nd + 1
        · exact absurd (show nd / 2 = j by omega) hq
        · rw [if_neg h3, if_pos (by omega)]
      · rw [if_neg h1, if_neg h2, if_neg (by omega), if_neg (by omega)]
theorem XK.unhex_getD : ∀ (n : Nat) (t : List UInt8) (j : Nat), t.length = 2 * n → j < n → (MsgPure.unhex t).getD j 0 = UInt8.ofNat (16 * MsgPure.dv (t.getD (2 * j) 0) + MsgPure.dv (t.getD (2 * j + 1) 0))
  | n + 1, a :: b :: r, 0, _, _ => rfl
  | n + 1, a :: b :: r, j + 1, h, hj => by
    rw [MsgPure.unhex, List.getD_cons_succ, XK.unhex_getD n r j (by simp at h; omega) (by omega)]
    rw [show 2 * (j + 1) = 2 * j + 1 + 1 by omega]
    simp only [List.getD_cons_succ]
/-- all digits read -/
theorem XK.idl_all (s : List UInt8) (h : s.length = 71) : XK.idl s 64 = MsgPure.unhex ((s.drop 1).take 64) := by
  have h64 : ((s.drop 1).take 64).length = 2 * 32 := by simp [h]
  apply XK.eq_of_getD 32 (XK.idl_length _ _) (MsgPure.unhex_length 32 _ h64)
  intro j hj
  have e : ∀ i, i < 64 → ((s.drop 1).take 64).getD i 0 = s.getD (i + 1) 0 := fun i hi => by
    rw [List.getD_eq_getElem?_getD, List.getElem?_take, if_pos hi, List.getElem?_drop, Nat.add_comm, ← List.getD_eq_getElem?_getD]
  rw [XK.idl_get _ _ _ hj, XK.unhex_getD 32 _ j h64 hj, e _ (by omega), e _ (by omega)]
  unfold XK.val
  rw [if_pos (by omega)]
theorem XK.bv_set (l : List UInt8) (i : Nat) (x : UInt8) : (bv l).toArray.setIfInBounds i (.int .u8 x.toNat) = (bv (l.set i x)).toArray := by
  simp [bv, Lib.byteCells, List.map_set]
theorem XK.val_lt (s : List UInt8) (nd : Nat) (h : ∀ i, 1 ≤ i → i ≤ nd → MsgPure.isD (s.getD i 0) = true) : XK.val s nd (nd / 2) < 16 := by
  unfold XK.val
  rw [if_neg (by omega)]
  split
  · exact (MsgPure.dv_lt _ (h _ (by omega) (by omega))).1
  · omega
/-- three results, the first an array in memory -/
theorem XK.results_arr {P : Program} {T e : TypeId} (A : Arr P T e) {fn : Func} {p t u : Tmp} (h : fn.results = #[.cell p T, .tmp t, .tmp u]) (tmps : Array Value) (w : World) (g : Nat) (ty : TypeId) (l : List UInt8) (hl : l.length = 32)
    (hp : tmps.getD p undef = .pointer (some ⟨g, 0, none⟩)) (hg : w.heap[g]? = some (.cells (bv l).toArray ty (0, 0))) :
    (results fn tmps).run P w = .ok (.tuple #[.agg (bv l).toArray, tmps.getD t undef, tmps.getD u undef]) w := by
  have hp' : tmps[p]?.getD undef = .pointer (some ⟨g, 0, none⟩) := by simpa using hp
  simp [results, h, hp', asAddr, run_loadVar_row w g ty T (bv l).toArray (0, 0) _ hg A.ut rfl (by rw [A.st]; simp [bv_length, hl])]
theorem XK.row_set {w : World} {g : Nat} {l : List UInt8} {T : TypeId} (hg : w.heap[g]? = some (.cells (bv l).toArray T (0, 0))) (i : Nat) (x : UInt8) :
    (w.setCell ⟨g, i, none⟩ (.int .u8 x.toNat)).heap[g]? = some (.cells (bv (l.set i x)).toArray T (0, 0)) := by
  rw [heap_setCell_same w g i _ T _ hg, XK.bv_set]
/-- what Parse of a text is, as a value -/
def XK.pval (s : List UInt8) : Value := .tuple #[.agg (bv (MsgPure.parse s).id).toArray, .int .i64 (MsgPure.parse s).at_, .int .i64 (MsgPure.parse s).e]
set_option maxRecDepth 100000 in
/-- bulletinref11.Parse -/
theorem Try.rParse (s : ByteArray) (hs : s.size ≤ 9223372036854775807) (w : World) :
    Calls Try.prog 15 #[.string s] w fun e w' => e = .returned (XK.pval s.data.toList) ∧ Below w.heap.size w w' := by
  have hsz : s.data.toList.length = s.size := by rw [Array.length_toList]; rfl
  go_enter Try.func15, Try.ntmps15
  go_wp2_with (first | (refine x_al Try.arrRId rfl rfl ?_))
  go_loopw [7] (fun i wr => ∃ k : Nat, k ≤ s.size ∧ k ≤ 71 ∧ i = .int .i64 k ∧ (∀ j, j < k → MsgPure.okAt s.data.toList j = true) ∧ Below w.heap.size w wr ∧ wr.heap[w.heap.size]? = some (.cells (bv z32).toArray 30 (0, 0)) ∧ wr.heap[w.heap.size + 1]? = some (.cells (bv (XK.idl s.data.toList (min (k - 1) 64))).toArray 30 (0, 0))) (fun i _ => 71 - (intOf i).toNat)
  case atStart =>
    refine ⟨0, by omega, by omega, rfl, fun j hj => by omega, ((Below.refl _ _).alloc (Nat.le_refl _) _).alloc (by simp) _, Go.heap_alloc2_old w _ _, ?_⟩
    rw [show min (0 - 1) 64 = 0 from rfl, XK.idl_zero]
    exact Go.heap_alloc2_new w _ _
  case round =>
    obtain ⟨k, hk, hk71, rfl, hok, hb, hrow, hrow2⟩ := hrel
    by_cases hlt : k < s.size ∧ k < 71
    · obtain ⟨hlt, hlt71⟩ := hlt
      have hby := XK.byte_at s k hlt
      by_cases h0 : k = 0
      · subst h0
        clear hok
        by_cases h60 : s[0]'hlt = 60
        · have hb60 : (((s[0]'hlt).toNat : Int) != 60) = false := by rw [h60]; rfl
          have hok0 : MsgPure.okAt s.data.toList 0 = true := by unfold MsgPure.okAt; rw [if_pos rfl, ← hby, h60]; rfl
          clear hby h60
          go_wp2
          go_roundw
          case rel => exact ⟨1, by omega, by omega, rfl, fun j hj => by rw [show j = 0 by omega]; exact hok0, hb, hrow, hrow2⟩
          case measure => simp [intOf]
        · have hb60 : (((s[0]'hlt).toNat : Int) != 60) = true := by
            rw [bne_iff_ne]; intro e; exact h60 (UInt8.toNat_inj.1 (by have : (60 : UInt8).toNat = 60 := rfl; omega))
          have hok0 : MsgPure.okAt s.data.toList 0 = false := by
            unfold MsgPure.okAt; rw [if_pos rfl, ← hby]; simpa using h60
          have hp := Lib.hid (MsgPure.parse_bad (k := 0) (by omega) (by omega) hok0 (fun j hj => by omega))
          clear hby h60 hok0
          go_wp2_with (first | (refine x_bz Try.arrRId rfl rfl ?_) | (refine x_st0 Try.arrRId rfl _ _ rfl _ rfl z32 rfl rfl _ _ hrow rfl ?_))
          refine bodyPost_ret (XK.results_arr Try.arrRId rfl _ _ _ _ z32 rfl rfl (setRow_heap _ _ _ _ _ _ hrow)) rfl ⟨?_, below_setRow hb (Nat.le_refl _) _⟩
          rw [XK.pval, hp.out]; rfl
      · obtain ⟨m, rfl⟩ : ∃ m, k = m + 1 := ⟨k - 1, by omega⟩
        have hk0 : (((m : Int) + 1) == 0) = false := by rw [beq_eq_false_iff_ne]; omega
        by_cases h64 : m < 64
        · rw [show min (m + 1 - 1) 64 = m by omega] at hrow2
          have hv := XK.val_lt s.data.toList m (fun i h1 h2 => by
            have := hok i (by omega)
            unfold MsgPure.okAt at this
            rwa [if_neg (by omega), if_pos (by omega)] at this)
          have hcell : wr.cell? ⟨w.heap.size + 1, m / 2, none⟩ = some (.int .u8 (XK.val s.data.toList m (m / 2) : Nat)) := by
            rw [Go.cell_of_row _ _ _ _ _ _ hrow2]
            have := bv_get (XK.idl s.data.toList m) (m / 2) (by rw [XK.idl_length]; omega)
            rw [XK.idl_get _ _ _ (by omega)] at this
            rw [List.getElem?_toArray, this, UInt8.toNat_ofNat', Nat.mod_eq_of_lt (by omega)]
          have hfz : wr.frozen? ⟨w.heap.size + 1, m / 2, none⟩ = false := frozen_of_row _ _ _ _ _ hrow2
          have hsucc := Lib.hid (XK.idl_succ s.data.toList m)
          have hokd : MsgPure.okAt s.data.toList (m + 1) = MsgPure.isD (s[m + 1]'hlt) := by
            unfold MsgPure.okAt; rw [if_neg (by omega), if_pos (by omega), ← hby]
          rw [← hby] at hsucc
          generalize hx : s[m + 1]'hlt = x at hokd hsucc
          have hX := Lib.hid hx
          clear hby
          by_cases hd : MsgPure.isD x = true
          · have hdv : XK.dvI x = (MsgPure.dv x : Nat) := by unfold XK.dvI; rw [if_pos hd]
            have hdl := (MsgPure.dv_lt x hd).1
            have hokn : Hid (∀ j, j < m + 1 + 1 → MsgPure.okAt s.data.toList j = true) := Lib.hid fun j hj => by
              rcases Nat.lt_or_eq_of_le (Nat.lt_succ_iff.1 hj) with h' | h'
              · exact hok j h'
              · rw [h', hokd, hd]
            clear hok hokd hd
            generalize XK.val s.data.toList m (m / 2) = v at hcell hv hsucc
            generalize MsgPure.dv x = d at hdv hdl hsucc
            clear hx
            go_wp2_with fail
            refine (Try.rdigit _ _).mono ?_
            rintro e w' ⟨rfl, rfl⟩
            rw [hX.out, hdv]
            clear hdv
            go_wp2
            go_roundw
            case rel =>
              refine ⟨m + 2, by omega, by omega, by go_num, hokn.out, hb.setCell (p := ⟨w.heap.size + 1, _, none⟩) (by simp) _, ?_, ?_⟩
              · rw [Go.heap_setCell_other _ _ _ _ (by simp)]; exact hrow
              · have e : (UInt8.ofNat (v * 16 + d)).toNat = v * 16 + d := by rw [UInt8.toNat_ofNat']; omega
                have := XK.row_set hrow2 (m / 2) (UInt8.ofNat (v * 16 + d))
                rw [e] at this
                rw [show min (m + 2 - 1) 64 = m + 1 by omega, hsucc.out]
                simpa using this
            case measure => simp [intOf]; omega
          · have hdv : XK.dvI x = -1 := by unfold XK.dvI; rw [if_neg hd]
            have hp := Lib.hid (MsgPure.parse_bad (k := m + 1) (by omega) (by omega) (by rw [hokd]; simpa using hd) hok)
            clear hok hokd hd hsucc hcell hfz hv hrow2
            clear hx
            go_wp2_with fail
            refine (Try.rdigit _ _).mono ?_
            rintro e w' ⟨rfl, rfl⟩
            rw [hX.out, hdv]
            clear hdv
            go_wp2_with (first | (refine x_bz Try.arrRId rfl rfl ?_) | (refine x_st0 Try.arrRId rfl _ _ rfl _ rfl z32 rfl rfl _ _ hrow rfl ?_))
            refine bodyPost_ret (XK.results_arr Try.arrRId rfl _ _ _ _ z32 rfl rfl (setRow_heap _ _ _ _ _ _ hrow)) rfl ⟨?_, below_setRow hb (Nat.le_refl _) _⟩
            rw [XK.pval, hp.out]; rfl
        · have h64' : 64 ≤ m := by omega
          rw [show min (m + 1 - 1) 64 = 64 by omega] at hrow2
          obtain ⟨t, rfl⟩ : ∃ t, m = t + 64 := ⟨m - 64, by omega⟩
          have i1 : (t : Int) + 64 + 1 < s.size := by omega
          have i2 : (t : Int) < 6 := by omega
          have i3 : t < 6 := by omega
          have i4 : (0 : Int) ≤ (t : Int) + 64 + 1 := by omega
          have i5 : IntKind.i64.wrap ((t : Int) + 64 + 1 - 65) = t := by rw [IntWalk.i64_in _ (by omega)]; omega
          have i6 : ((t : Int) + 64 + 1).toNat = t + 64 + 1 := by omega
          have hT : (((⟨#[64, 104, 97, 115, 104, 62]⟩ : ByteArray)[t]'i3)) = MsgPure.tail.getD t 0 := XK.byte_at _ _ _
          have hokd : MsgPure.okAt s.data.toList (t + 64 + 1) = ((s.data[t + 64 + 1]'hlt) == MsgPure.tail.getD t 0) := by
            unfold MsgPure.okAt; rw [if_neg (by omega), if_neg (by omega), ← hby, show t + 64 + 1 - 65 = t by omega]; rfl
          have hO := Lib.hid hokd
          have hT' := Lib.hid hT
          have hok' := Lib.hid hok
          clear hok hokd hT hby
          go_wp2_with fail
          go_quiet (fail)
          go_wp2_with (first | (refine x_bz Try.arrRId rfl rfl ?_) | (refine x_st0 Try.arrRId rfl _ _ rfl _ rfl z32 rfl rfl _ _ hrow rfl ?_))
          · have hne : (((s.data[t + 64 + 1]'(by exact hlt)).toNat : Int) != (((⟨#[64, 104, 97, 115, 104, 62]⟩ : ByteArray)[t]'(by exact i3)).toNat : Int)) = true := by assumption
            have hbad : MsgPure.okAt s.data.toList (t + 64 + 1) = false := by
              rw [hO.out, beq_eq_false_iff_ne]; intro e
              rw [bne_iff_ne] at hne; apply hne; rw [hT'.out, e]
            have hp := MsgPure.parse_bad (k := t + 64 + 1) (by omega) (by omega) hbad hok'.out
            refine bodyPost_ret (XK.results_arr Try.arrRId rfl _ _ _ _ z32 rfl rfl (setRow_heap _ _ _ _ _ _ hrow)) rfl ⟨?_, below_setRow (XK.below_drewN hb _) (Nat.le_refl _) _⟩
            rw [XK.pval, hp]; rfl
          · have hne : (((s.data[t + 64 + 1]'(by exact hlt)).toNat : Int) != (((⟨#[64, 104, 97, 115, 104, 62]⟩ : ByteArray)[t]'(by exact i3)).toNat : Int)) = false := by assumption
            have hgood : MsgPure.okAt s.data.toList (t + 64 + 1) = true := by
              rw [hO.out, beq_iff_eq]
              rw [bne_eq_false_iff_eq, hT'.out] at hne; exact UInt8.toNat_inj.1 (by omega)
            have hokn : ∀ j, j < t + 64 + 1 + 1 → MsgPure.okAt s.data.toList j = true := fun j hj => by
              rcases Nat.lt_or_eq_of_le (Nat.lt_succ_iff.1 hj) with h' | h'
              · exact hok'.out j h'
              · rw [h', hgood]
            go_roundw
            case rel => exact ⟨t + 64 + 1 + 1, by omega, by omega, by go_num, hokn, XK.below_drewN hb _, hrow, by rw [show min (t + 64 + 1 + 1 - 1) 64 = 64 by omega]; exact hrow2⟩
            case measure => simp [intOf]; omega
    · -- behind the loop
      have hk' : k = s.size ∨ k = 71 := by omega
      rcases Nat.lt_trichotomy s.size 71 with h71 | h71 | h71
      · obtain rfl : k = s.size := by omega
        have hp := Lib.hid (MsgPure.parse_short (s := s.data.toList) (by omega) (fun j hj => hok j (by omega)))
        rw [hsz] at hp
        clear hok hk' hlt
        go_wp2_with (first | (refine x_bz Try.arrRId rfl rfl ?_) | (refine x_st0 Try.arrRId rfl _ _ rfl _ rfl z32 rfl rfl _ _ hrow rfl ?_))
        refine bodyPost_ret (XK.results_arr Try.arrRId rfl _ _ _ _ z32 rfl rfl (setRow_heap _ _ _ _ _ _ hrow)) rfl ⟨?_, below_setRow hb (Nat.le_refl _) _⟩
        rw [XK.pval, hp.out]; rfl
      · obtain rfl : k = 71 := by omega
        have hp := Lib.hid (MsgPure.parse_ok (s := s.data.toList) (by omega) (fun j hj => hok j (by omega)))
        have hall := Lib.hid (XK.idl_all s.data.toList (by omega))
        rw [show min (71 - 1) 64 = 64 from rfl] at hrow2
        have hlid := XK.idl_length s.data.toList 64
        clear hok hk' hlt
        generalize XK.idl s.data.toList 64 = il at hrow2 hall hlid
        go_wp2_with (first | (refine x_ld Try.arrRId rfl _ rfl _ _ rfl il hlid ?_ ?_; exact fun j v hj => by rw [Go.cell_of_row _ _ _ _ _ _ hrow2]; simpa using hj) | (refine x_st0 Try.arrRId rfl _ _ rfl _ rfl il rfl hlid _ _ hrow rfl ?_))
        refine bodyPost_ret (XK.results_arr Try.arrRId rfl _ _ _ _ il hlid rfl (setRow_heap _ _ _ _ _ _ hrow)) rfl ⟨?_, below_setRow hb (Nat.le_refl _) _⟩
        rw [XK.pval, hp.out, hall.out]; rfl
      · obtain rfl : k = 71 := by omega
        have hp := Lib.hid (MsgPure.parse_long (s := s.data.toList) (by omega) (fun j hj => hok j (by omega)))
        clear hok hk' hlt
        go_wp2_with (first | (refine x_bz Try.arrRId rfl rfl ?_) | (refine x_st0 Try.arrRId rfl _ _ rfl _ rfl z32 rfl rfl _ _ hrow rfl ?_))
        refine bodyPost_ret (XK.results_arr Try.arrRId rfl _ _ _ _ z32 rfl rfl (setRow_heap _ _ _ _ _ _ hrow)) rfl ⟨?_, below_setRow hb (Nat.le_refl _) _⟩
        rw [XK.pval, hp.out]; rfl
end Go.Proofs
