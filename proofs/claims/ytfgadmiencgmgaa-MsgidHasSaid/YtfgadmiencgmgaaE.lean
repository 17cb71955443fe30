/- msgid.Parse -/
import Derived.Test.YtfgadmiencgmgaaD
import Derived.Deep.AppendLies
namespace Go.Proofs
open Go.RowKit XK
/-- what stands at place i of the zero identity's text -/
theorem XK.okAt_form (s : List UInt8) (i : Nat) (h : i < 71) (hi : i = 0 ∨ 65 ≤ i) : MsgPure.okAt s i = (s.getD i 0 == (MsgPure.prn z32).getD i 0) := by
  have hp := MsgPure.prn_at (l := z32) rfl i
  unfold MsgPure.okAt
  rcases hi with hi | hi
  · subst hi; rw [if_pos rfl, hp, if_pos rfl]
  · rw [if_neg (by omega), if_neg (by omega), hp, if_neg (by omega), if_neg (by omega)]
theorem XK.okAt_digit (s : List UInt8) (i : Nat) (h1 : 1 ≤ i) (h2 : i < 65) : MsgPure.okAt s i = MsgPure.isD (s.getD i 0) := by
  unfold MsgPure.okAt
  rw [if_neg (by omega), if_pos (by omega)]
theorem XK.splice_all {α : Type} (a b : List α) (h : a.length = b.length) : splice a 0 b = b := by
  simp [splice, ← h]
/-- strings.IndexByte in the digits -/
theorem Try.indexHexC (c : UInt8) (w : World) : Calls Try.prog 32 #[.string ⟨#[48, 49, 50, 51, 52, 53, 54, 55, 56, 57, 97, 98, 99, 100, 101, 102]⟩, .int .u8 c.toNat] w fun e w' => e = .returned (.int .i64 (XK.dvI c)) ∧ w' = w := by
  have h := Try.indexByte ⟨#[48, 49, 50, 51, 52, 53, 54, 55, 56, 57, 97, 98, 99, 100, 101, 102]⟩ c.toNat w
  rwa [show (⟨#[48, 49, 50, 51, 52, 53, 54, 55, 56, 57, 97, 98, 99, 100, 101, 102]⟩ : ByteArray).data.toList = [48, 49, 50, 51, 52, 53, 54, 55, 56, 57, 97, 98, 99, 100, 101, 102] from rfl, Int.toNat_natCast, Nat.toUInt8_eq, UInt8.ofNat_toNat, XK.indexHex] at h
set_option maxRecDepth 100000 in
set_option maxHeartbeats 800000 in
/-- msgid.Parse -/
theorem Try.parse (s : ByteArray) (hs : s.size ≤ 9223372036854775807) (w : World) :
    Calls Try.prog 12 #[.string s] w fun e w' => e = .returned (XK.pval s.data.toList) ∧ Below w.heap.size w w' := by
  have hsz : s.data.toList.length = s.size := by rw [Array.length_toList]; rfl
  obtain ⟨F, hF⟩ : ∃ F : ByteArray, F = ⟨(MsgPure.prn z32).toArray⟩ := ⟨_, rfl⟩
  have hF71 : F.size = 71 := by rw [hF]; rfl
  have hFl : F.data.toList = MsgPure.prn z32 := by rw [hF]
  have hprint := Try.print z32 rfl
  rw [← hF] at hprint
  clear hF
  obtain ⟨M, hM⟩ : ∃ M : Nat, M = min s.size 71 := ⟨_, rfl⟩
  have hMi : min (s.size : Int) 71 = (M : Int) := by subst hM; omega
  have hM1 : M ≤ s.size := by omega
  have hM2 : M ≤ 71 := by omega
  have hM3 : M = s.size ∨ M = 71 := by omega
  have HM := Lib.hid hM3
  have HF := Lib.hid hF71
  have HFl := Lib.hid hFl
  clear hM hM3 hF71 hFl
  go_enter Try.func12, Try.ntmps12
  go_wp2_with (first | (refine x_al Try.arrId rfl rfl ?_) | (refine x_bz Try.arrId rfl rfl ?_) | (go_at_call 11; refine (hprint _).mono ?_; rintro e w1 ⟨rfl, hb1⟩))
  have hrow1 : w1.heap[w.heap.size]? = some (.cells (bv z32).toArray 23 (0, 0)) := (hb1.block _ (by simp)).trans (Go.heap_alloc_new w _)
  have hB1 : Below w.heap.size w w1 := ((Below.refl _ _).alloc (Nat.le_refl _) _).trans (hb1.mono (by simp))
  clear hb1 hprint hMi
  go_loopw [15] (fun i wr => ∃ k : Nat, k ≤ M ∧ i = .int .i64 k ∧ (∀ j, j < k → MsgPure.okAt s.data.toList j = true) ∧ Below w.heap.size w wr ∧ wr.heap[w.heap.size]? = some (.cells (bv z32).toArray 23 (0, 0))) (fun i _ => M - (intOf i).toNat)
  case atStart => exact ⟨0, by omega, rfl, fun j hj => by omega, hB1, hrow1⟩
  case round =>
    clear hB1 hrow1
    obtain ⟨k, hk, rfl, hok, hb, hrow⟩ := hrel
    by_cases hlt : k < M
    · have hks : k < s.size := by omega
      have hk71 : k < 71 := by omega
      have hkF : k < F.size := by rw [HF.out]; exact hk71
      have i1 : (k : Int) < s.size := by omega
      have i2 : (k : Int) < F.size := by omega
      have hby := XK.byte_at s k hks
      by_cases hd : 1 ≤ k ∧ k < 65
      · obtain ⟨d1, d2⟩ := hd
        have e1 : decide ((1 : Int) ≤ (k : Int)) = true := decide_eq_true (by omega)
        have e65 : decide ((k : Int) < 65) = true := decide_eq_true (by omega)
        have hokd := XK.okAt_digit s.data.toList k d1 d2
        rw [← hby] at hokd
        by_cases hx : MsgPure.isD (s[k]'hks) = true
        · have hdv := XK.dvI_of hx
          have hokn : Hid (∀ j, j < k + 1 → MsgPure.okAt s.data.toList j = true) := Lib.hid fun j hj => by
            rcases Nat.lt_or_eq_of_le (Nat.lt_succ_iff.1 hj) with h' | h'
            · exact hok j h'
            · rw [h', hokd, hx]
          clear hok hokd hby
          have hcall := fun W => Try.indexHexC (s[k]'hks) W
          rw [hdv] at hcall
          clear hdv hx
          generalize MsgPure.dv (s[k]'hks) = d at hcall
          have hd0 : decide ((d : Int) < 0) = false := decide_eq_false (by omega)
          go_wp2_with fail
          go_quiet ((go_at_call 32; exact Calls.quiet_of_same (hcall _)))
          go_wp2
          go_roundw
          case rel => exact ⟨k + 1, by omega, by go_num, hokn.out, XK.below_drewN hb _, hrow⟩
          case measure => simp [intOf]; omega
        · have hdv : XK.dvI (s[k]'hks) = -1 := by unfold XK.dvI; rw [if_neg hx]
          have hp := Lib.hid (MsgPure.parse_bad (s := s.data.toList) (k := k) (by omega) hk71 (by rw [hokd]; simpa using hx) hok)
          clear hok hokd hby
          have hcall := fun W => Try.indexHexC (s[k]'hks) W
          rw [hdv] at hcall
          clear hdv hx
          go_wp2_with fail
          go_quiet ((go_at_call 32; exact Calls.quiet_of_same (hcall _)))
          go_wp2_with (first | (refine x_bz Try.arrId rfl rfl ?_) | (refine x_st0 Try.arrId rfl _ _ rfl _ rfl z32 rfl rfl _ _ hrow rfl ?_))
          refine bodyPost_ret (XK.results_arr Try.arrId rfl _ _ _ _ z32 rfl rfl (setRow_heap _ _ _ _ _ _ hrow)) rfl ⟨?_, below_setRow (XK.below_drewN hb _) (Nat.le_refl _) _⟩
          rw [XK.pval, hp.out]; rfl
      · have hdz : k = 0 ∨ 65 ≤ k := by omega
        have hokd := XK.okAt_form s.data.toList k hk71 hdz
        have hbF := XK.byte_at F k hkF
        rw [HFl.out] at hbF
        rw [← hby, ← hbF] at hokd
        have hO := Lib.hid hokd
        have hok' := Lib.hid hok
        clear hokd hbF hby hok
        have hcase : (decide ((1 : Int) ≤ (k : Int)) = false) ∨ (decide ((1 : Int) ≤ (k : Int)) = true ∧ decide ((k : Int) < 65) = false) := by
          rcases hdz with h | h
          · exact .inl (decide_eq_false (by omega))
          · exact .inr ⟨decide_eq_true (by omega), decide_eq_false (by omega)⟩
        by_cases hx : s[k]'hks = F[k]'hkF
        · have hne : (((s[k]'hks).toNat : Int) != ((F[k]'hkF).toNat : Int)) = false := by rw [hx]; simp
          have hokn : Hid (∀ j, j < k + 1 → MsgPure.okAt s.data.toList j = true) := Lib.hid fun j hj => by
            rcases Nat.lt_or_eq_of_le (Nat.lt_succ_iff.1 hj) with h' | h'
            · exact hok'.out j h'
            · rw [h', hO.out, hx]; simp
          clear hx hdz hd
          rcases hcase with h | ⟨h, h'⟩
          all_goals
            go_wp2_with fail
            go_quiet (fail)
            go_wp2
            go_roundw
            case rel => exact ⟨k + 1, by omega, by go_num, hokn.out, XK.below_drewN hb _, hrow⟩
            case measure => simp [intOf]; omega
        · have hne : (((s[k]'hks).toNat : Int) != ((F[k]'hkF).toNat : Int)) = true := by
            rw [bne_iff_ne]; intro e; exact hx (UInt8.toNat_inj.1 (by omega))
          have hp := Lib.hid (MsgPure.parse_bad (s := s.data.toList) (k := k) (by omega) hk71 (by rw [hO.out]; simpa using hx) hok'.out)
          clear hx hdz hd
          rcases hcase with h | ⟨h, h'⟩
          all_goals
            go_wp2_with fail
            go_quiet (fail)
            go_wp2_with (first | (refine x_bz Try.arrId rfl rfl ?_) | (refine x_st0 Try.arrId rfl _ _ rfl _ rfl z32 rfl rfl _ _ hrow rfl ?_))
            refine bodyPost_ret (XK.results_arr Try.arrId rfl _ _ _ _ z32 rfl rfl (setRow_heap _ _ _ _ _ _ hrow)) rfl ⟨?_, below_setRow (XK.below_drewN hb _) (Nat.le_refl _) _⟩
            rw [XK.pval, hp.out]; rfl
    · have hM3 := HM.out
      rcases Nat.lt_trichotomy s.size 71 with h71 | h71 | h71
      · obtain rfl : k = s.size := by omega
        have hp := Lib.hid (MsgPure.parse_short (s := s.data.toList) (by omega) (fun j hj => hok j (by omega)))
        rw [hsz] at hp
        obtain rfl : s.size = M := by omega
        clear hok hM3 hlt
        go_wp2_with (first | (refine x_bz Try.arrId rfl rfl ?_) | (refine x_st0 Try.arrId rfl _ _ rfl _ rfl z32 rfl rfl _ _ hrow rfl ?_))
        refine bodyPost_ret (XK.results_arr Try.arrId rfl _ _ _ _ z32 rfl rfl (setRow_heap _ _ _ _ _ _ hrow)) rfl ⟨?_, below_setRow hb (Nat.le_refl _) _⟩
        rw [XK.pval, hp.out]; rfl
      · obtain rfl : M = 71 := by omega
        obtain rfl : k = 71 := by omega
        have hp := Lib.hid (MsgPure.parse_ok (s := s.data.toList) (by omega) (fun j hj => hok j (by omega)))
        obtain ⟨t, ht⟩ : ∃ t : ByteArray, t = s.extract 1 65 := ⟨_, rfl⟩
        have hte : t.data.toList = (s.data.toList.drop 1).take 64 := by
          rw [ht, Lib.extract_data]
        have htl : t.size = 2 * 32 := by
          have : t.data.toList.length = t.size := by rw [Array.length_toList]; rfl
          rw [← this, hte, List.length_take, List.length_drop]; omega
        have hun := fun W => Try.unhex t 32 htl (by omega) (fun j hj => by
          rw [hte, List.getD_eq_getElem?_getD, List.getElem?_take, if_pos (by omega), List.getElem?_drop, ← List.getD_eq_getElem?_getD, Nat.add_comm]
          rw [← XK.okAt_digit _ _ (by omega) (by omega)]
          exact hok _ (by omega)) W
        rw [hte] at hun
        rw [ht] at hun
        have hul : (MsgPure.unhex ((s.data.toList.drop 1).take 64)).length = 32 := MsgPure.unhex_length 32 _ (by rw [List.length_take, List.length_drop]; omega)
        clear hok hM3 hlt ht hte htl
        generalize MsgPure.unhex ((s.data.toList.drop 1).take 64) = il at hp hun hul
        have e71 : (s.size : Int) = 71 := by omega
        have i65 : (65 : Int) ≤ s.size := by omega
        have i65' : 65 ≤ s.size := by omega
        clear i65 i65'
        go_wp2_with fail
        refine (hun _).mono ?_
        rintro e w2 ⟨v, rfl, hown, hb2⟩
        obtain ⟨g, cap, rfl, hg1, hg2⟩ := hown.form (by omega)
        have hrow2 : w2.heap[w.heap.size]? = some (.cells (bv z32).toArray 23 (0, 0)) := (hb2.block _ (Array.getElem?_eq_some_iff.1 hrow).1).trans hrow
        have hB2 : Below w.heap.size w w2 := hb.trans (hb2.mono hb.size)
        clear hun hb2 hb hrow
        have hOwn := Lib.hid hown
        clear hown
        go_wp2_with (refine wpList_copy_splice rfl _ _ 35 35 rfl 5 Try.underlying35 (by kernel_rfl) (some ⟨w.heap.size, 0, none⟩) (some ⟨g, 0, none⟩) 32 32 32 cap rfl rfl w.heap.size 0 (bv z32) 23 hrow2 (bv il) ?c1 ?c2 ?c3 (bv_one il) w.heap.size w hB2 (Nat.le_refl _) ?_)
        case c1 => rw [bv_length, hul]; rfl
        case c2 =>
          intro _ j v hj
          have := hOwn.out.cells (g := g) rfl j v hj
          rwa [show (⟨g, 0, none⟩ : Addr).add j = ⟨g, j, none⟩ by unfold Addr.add; split <;> simp_all] at this
        case c3 => rw [bv_length, bv_length, hul]; decide
        intro w3 hrow3 hB3
        have hrow3 : w3.heap[w.heap.size]? = some (.cells (bv il).toArray 23 (0, 0)) := by
          have := hrow3.out
          rwa [XK.splice_all _ _ (by rw [bv_length, bv_length, hul]; rfl)] at this
        clear hOwn hrow2 hB2
        go_wp2_with (first | (refine x_ld Try.arrId rfl _ rfl _ _ rfl il hul ?_ ?_; exact fun j v hj => by rw [Go.cell_of_row _ _ _ _ _ _ hrow3]; simpa using hj) | (refine x_st0 Try.arrId rfl _ _ rfl _ rfl il rfl hul _ _ hrow3 ?_ ?_; exact (by simp [bv_length, hul])))
        refine bodyPost_ret (XK.results_arr Try.arrId rfl _ _ _ _ il hul rfl (setRow_heap _ _ _ _ _ _ hrow3)) rfl ⟨?_, below_setRow hB3 (Nat.le_refl _) _⟩
        rw [XK.pval, hp.out]; rfl
      · obtain rfl : M = 71 := by omega
        obtain rfl : k = 71 := by omega
        have hp := Lib.hid (MsgPure.parse_long (s := s.data.toList) (by omega) (fun j hj => hok j (by omega)))
        clear hok hM3 hlt
        go_wp2_with (first | (refine x_bz Try.arrId rfl rfl ?_) | (refine x_st0 Try.arrId rfl _ _ rfl _ rfl z32 rfl rfl _ _ hrow rfl ?_))
        refine bodyPost_ret (XK.results_arr Try.arrId rfl _ _ _ _ z32 rfl rfl (setRow_heap _ _ _ _ _ _ hrow)) rfl ⟨?_, below_setRow hb (Nat.le_refl _) _⟩
        rw [XK.pval, hp.out]; rfl
end Go.Proofs
