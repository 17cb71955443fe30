/- Zone -/
import Derived.Test.YtgbpafapmbnfjaaDoorZo
import Derived.Lib.MapLaws
namespace Go.Proofs
open Go.RowKit Go.Shelf Go.Maps
set_option linter.unusedVariables false
set_option linter.unusedSimpArgs false
namespace TK
theorem enc_le4 (z : Int) : (Lib.encodeRune z).length ≤ 4 := by
  unfold Lib.encodeRune Lib.encodeRuneZ
  rw [List.length_map]
  repeat' split
  all_goals simp
theorem mapD_len (f : Int → Int) : ∀ (n : Nat) (l : List UInt8), l.length ≤ n → (Lib.mapD f l).length ≤ 4 * l.length
  | 0, l, hn => by
    have : l = [] := List.eq_nil_of_length_eq_zero (by omega)
    subst this
    simp [Lib.mapD_nil]
  | n + 1, l, hn => by
    by_cases hne : l = []
    · subst hne
      simp [Lib.mapD_nil]
    · have hw := Lib.decodeL_width l
      have hle := Lib.decodeL_le l hne
      have ih := mapD_len f n (l.drop (Lib.decodeL l).2) (by rw [List.length_drop]; omega)
      rw [List.length_drop] at ih
      rw [Lib.mapD_step f l hne, List.length_append]
      have hh : (if 0 ≤ f (Lib.decodeL l).1 then Lib.encodeRune (f (Lib.decodeL l).1) else []).length ≤ 4 := by
        split
        · exact enc_le4 _
        · simp
      omega
def zup (s : ByteArray) : ByteArray := ⟨(Lib.toUpperD s.data.toList).toArray⟩
def zhas (s : ByteArray) : Bool := Maps.has zD (.string (zup s).data.toList)
def zc (s : ByteArray) : Int := match zD.atKey (.string (zup s).data.toList) (.lit (.int .i64 0)) with
  | .lit (.int _ c) => c
  | _ => 0
def znon (s : ByteArray) : Bool := decide (0 ≤ Lib.idxFunc (fun x => decide (127 < x)) true s)
def zdg (s : ByteArray) : Nat → Nat → Nat → Option Nat
  | 0, _, n => some n
  | k + 1, i, n => if isDg (bt s i) = true then zdg s k (i + 1) (10 * n + (bt s i - 48)) else none
def zrest (s : ByteArray) : Int × Nat :=
  if s.size = 5 ∧ (bt s 0 = 43 ∨ bt s 0 = 45) then
    match zdg s 4 1 0 with
    | none => (0, 3)
    | some n => if 59 < n % 100 then (0, 3) else if 840 < n / 100 * 60 + n % 100 then (0, 2) else (if bt s 0 = 45 then -((n / 100 * 60 + n % 100 : Nat) : Int) else ((n / 100 * 60 + n % 100 : Nat) : Int), 0)
  else (0, 3)
def zone (s : ByteArray) : Int × Nat := if zhas s = true ∧ znon s = false then (zc s, 0) else zrest s
end TK
open TK
set_option maxRecDepth 100000 in
theorem Tryd.zoneK (x : Nat) (w : World) : Calls Tryd.prog 70 #[.int .i32 (x : Int)] w fun e w' => e = .returned (.bool (decide (127 < x))) ∧ w' = w := by
  by_cases h : 127 < x
  · have b1 : decide (127 < (x : Int)) = true := decide_eq_true (by omega)
    rw [decide_eq_true h]
    clear h
    go_enter Tryd.func70, Tryd.ntmps70
    go_wp2
    go_ret
    exact ⟨rfl, rfl⟩
  · have b1 : decide (127 < (x : Int)) = false := decide_eq_false (by omega)
    rw [decide_eq_false h]
    clear h
    go_enter Tryd.func70, Tryd.ntmps70
    go_wp2
    go_ret
    exact ⟨rfl, rfl⟩
theorem Tryd.cfZoneK (args : Array Value) (w : World) : (callFunc 70 args).run Tryd.prog w = .ok (.enter 70 args) w := enters_of Tryd.func70 (by kernel_rfl) rfl args w
set_option maxRecDepth 100000 in
set_option maxHeartbeats 2000000 in
theorem Tryd.dZone (s : ByteArray) (hs : s.size ≤ 64) (w : World) (hT : Tabs w) : Calls Tryd.prog 55 #[.string s] w fun z w' => z = .returned (.tuple #[.int .i64 (zone s).1, .int .i64 ((zone s).2 : Int)]) ∧ Below w.heap.size w w' := by
  have hHT := Lib.hid hT
  have hcU : Hid (∀ W, Below w.heap.size w W → Calls Tryd.prog 68 #[.string s] W fun e w' => e = .returned (.string (zup s)) ∧ Below W.heap.size W w') := Lib.hid fun W h => Any.strings_ToUpper_any Tryd.lays158 Tryd.Builder_Extra_158 s W (by omega) (hT.below h).2.2 (hT.below h).2.1
  have hcC : Hid (∀ W, Calls Tryd.prog 69 #[.string s, .func (.func 70) #[] #[]] W fun e w' => e = .returned (.bool (znon s)) ∧ Below W.heap.size W w') := Lib.hid fun W => Any.strings_ContainsFunc_grows Tryd.laysGw17 70 #[] Tryd.cfZoneK (fun x => decide (127 < x)) s W (fun W' x hx hb => (Tryd.zoneK x W').mono fun e w' h => ⟨h.1, by rw [h.2]; exact Below.refl _ _⟩)
  clear hT
  have hsz : (zup s).size ≤ 100000 := by
    have h := mapD_len Lib.toUpperU s.data.toList.length s.data.toList (Nat.le_refl _)
    have h2 : s.data.toList.length = s.size := by simp
    show (Lib.toUpperD s.data.toList).length ≤ _
    unfold Lib.toUpperD
    omega
  have hzh : Hid (zhas s = Maps.has zD (.string (zup s).data.toList)) := Lib.hid rfl
  have hzc : ∀ c, zD.atKey (.string (zup s).data.toList) (.lit (.int .i64 0)) = .lit (.int .i64 c) → zc s = c := fun c h => by unfold zc; rw [h]
  have hHzc := Lib.hid hzc
  have hz : Hid (zone s = if zhas s = true ∧ znon s = false then (zc s, 0) else zrest s) := Lib.hid rfl
  clear hzc
  generalize zup s = u at *
  cases h1 : zhas s
  · have hf : Hid (zone s = zrest s) := Lib.hid (by rw [hz.out, h1]; rfl)
    rw [h1] at hzh
    clear h1 hz hcC
    by_cases h5 : s.size = 5
    · have h0lt : 0 < s.size := by omega
      obtain ⟨b0, hb0⟩ : ∃ b, (s[0]'h0lt).toNat = b := ⟨_, rfl⟩
      have hbt : Hid (bt s 0 = b0) := Lib.hid ((bt_eq s 0 h0lt).trans hb0)
      have h50 : (0 : Int) < (s.size : Int) := by omega
      by_cases hsg : b0 = 43 ∨ b0 = 45
      · have hHs := Lib.hid hsg
        rcases hHs.out with rfl | rfl
        · clear hsg hHs
          have hzr : Hid (zrest s = match zdg s 4 1 0 with
              | none => (0, 3)
              | some n => if 59 < n % 100 then (0, 3) else if 840 < n / 100 * 60 + n % 100 then (0, 2) else (if bt s 0 = 45 then -((n / 100 * 60 + n % 100 : Nat) : Int) else ((n / 100 * 60 + n % 100 : Nat) : Int), 0)) := Lib.hid (by conv => lhs; unfold zrest; rw [if_pos ⟨h5, by rw [hbt.out]; decide⟩])
          have hd5 := Lib.hid h5
          obtain ⟨r, hr⟩ : ∃ r, zdg s 4 1 0 = r := ⟨_, rfl⟩
          have hHr := Lib.hid hr
          rw [hr] at hzr
          have g5 : ((s.size : Int) == 5) = true := by rw [h5]; rfl
          have g6 : ((s.size : Int) != 5) = false := by rw [bne, g5]; rfl
          clear hr
          go_enter Tryd.func55, Tryd.ntmps55
          go_wp2_with (first
            | (go_at_call 67; refine (Tryd.dZones _).mono ?_; rintro e W1 ⟨rfl, hb1, hown⟩; have hHb1 := Lib.hid hb1; have hHown := Lib.hid hown; clear hb1 hown)
            | (go_at_call 68; refine (hcU.out _ hHb1.out).mono ?_; rintro e W2 ⟨rfl, hb2⟩; have hHb2 := Lib.hid (hHb1.out.trans (hb2.mono hHb1.out.size)); have hown2 := hHown.out.kept (up hb2 none) (by simp); clear hb2)
            | (at_lookup; refine wpList_lookup_own_ok_int _ rfl _ _ 97 rfl 9 3 .i64 (string_keyed Tryd.underlying9) Tryd.underlying97 Tryd.underlying3 (by kernel_rfl) w.heap.size 12 zD rfl hown2 _ _ rfl (WideMaps.keyOf_string_mk Tryd.underlying9 (by unfold maxLen; omega)) ?_; intro c hat hwc; rw [← hzh.out]; have hcz := Lib.hid (hHzc.out c hat); clear hat hwc hown2)
          )
          have hBs := Lib.hid hHb2.out
          go_loopw [6, 7] (fun s6 s7 wr => ∃ (j n : Nat), j ≤ 5 ∧ 1 ≤ j ∧ s7 = .int .i64 j ∧ s6 = .int .i64 n ∧ n + 1 ≤ 10 ^ j ∧ Hid (zdg s (5 - j) j n = r) ∧ Hid (Below w.heap.size w wr)) (fun _ s7 _ => 5 - (intOf s7).toNat)
          case atStart => exact ⟨1, 0, by omega, by omega, rfl, rfl, by simp, hHr, hBs⟩
          case round =>
            obtain ⟨j, n, hj, hj1, rfl, rfl, hn, hzg, hB⟩ := hrel
            have i0 : (0 : Int) ≤ j := by omega
            have hpj : 10 ^ j ≤ 10 ^ 5 := Nat.pow_le_pow_right (by omega) (by omega)
            by_cases hlt : j < 5
            · have hjs : j < s.size := by have := hd5.out; omega
              have i1 : (j : Int) < s.size := by omega
              have i3 : decide ((j : Int) < s.size) = true := decide_eq_true i1
              obtain ⟨c, hc⟩ : ∃ c, (s[j]'hjs).toNat = c := ⟨_, rfl⟩
              have hbj : bt s j = c := (bt_eq s j hjs).trans hc
              have hcd : Hid (Calls Tryd.prog 53 #[.int .u8 (c : Int)] wr fun e w' => e = .returned (.bool (isDg c)) ∧ w' = wr) := Lib.hid (Tryd.pDigit c wr)
              have hst : zdg s (5 - j) j n = if isDg c = true then zdg s (5 - (j + 1)) (j + 1) (10 * n + (c - 48)) else none := by
                rw [show 5 - j = (5 - (j + 1)) + 1 by omega, zdg, hbj]
              have hst2 := hst.symm.trans hzg.out
              cases hdg : isDg c
              · rw [hdg] at hcd hst2
                rw [if_neg (by decide)] at hst2
                have hrr : Hid (zrest s = (0, 3)) := Lib.hid (by rw [hzr.out, ← hst2])
                clear hst hst2 hdg hbj hpj hn
                go_wp2_with (go_at_call 53; refine (hcd.out).mono ?_; rintro e w' ⟨rfl, rfl⟩)
                go_ret2
                exact ⟨by rw [hf.out, hrr.out]; rfl, hB.out⟩
              · rw [hdg] at hcd hst2
                rw [if_pos rfl] at hst2
                have hHst := Lib.hid hst2
                have hc1 : 48 ≤ c ∧ c ≤ 57 := by unfold isDg at hdg; simpa using hdg
                have u1 : IntKind.u8.wrap ((c : Int) - 48) = ((c - 48 : Nat) : Int) := by
                  have h : IntKind.u8.wrap ((c : Int) - 48) = ((c : Int) - 48) % 256 := rfl
                  rw [h]; omega
                obtain ⟨d, hd⟩ : ∃ d, c - 48 = d := ⟨_, rfl⟩
                rw [hd] at u1 hHst
                have u2 : IntKind.i64.wrap (10 * (n : Int)) = 10 * n := IntWalk.i64_in _ (by omega)
                have u3 : IntKind.i64.wrap (d : Int) = d := IntWalk.i64_in _ (by omega)
                have u4 : IntKind.i64.wrap (10 * (n : Int) + d) = 10 * n + d := IntWalk.i64_in _ (by omega)
                have u5 : IntKind.i64.wrap ((j : Int) + 1) = j + 1 := IntWalk.i64_in _ (by omega)
                have hn2 : 10 * n + d + 1 ≤ 10 ^ (j + 1) := by rw [Nat.pow_succ]; omega
                have hHn2 := Lib.hid hn2
                clear hst hst2 hdg hbj hpj hn hd hc1 hn2
                go_wp2_with (go_at_call 53; refine (hcd.out).mono ?_; rintro e w' ⟨rfl, rfl⟩)
                go_roundw
                case rel => exact ⟨j + 1, 10 * n + d, by omega, by omega, by simp, by simp, hHn2.out, hHst, hB⟩
                case measure => simp [intOf]; omega
            · obtain rfl : j = 5 := by omega
              have i3 : decide (((5 : Nat) : Int) < s.size) = false := decide_eq_false (by have := hd5.out; omega)
              have i4 : decide ((5 : Int) < s.size) = false := decide_eq_false (by have := hd5.out; omega)
              have hrn : Hid (r = some n) := Lib.hid (by have h := hzg.out; rw [Nat.sub_self, zdg] at h; exact h.symm)
              obtain ⟨m1, hm1⟩ : ∃ m1, n % 100 = m1 := ⟨_, rfl⟩
              obtain ⟨d1, hd1⟩ : ∃ d1, n / 100 = d1 := ⟨_, rfl⟩
              have q0 : (n : Int).tmod 100 = (m1 : Int) := by rw [Int.tmod_eq_emod_of_nonneg (by omega)]; omega
              have q1 : (n : Int).tdiv 100 = (d1 : Int) := by rw [Int.tdiv_eq_ediv_of_nonneg (by omega)]; omega
              have q2 : IntKind.i64.wrap (m1 : Int) = m1 := IntWalk.i64_in _ (by omega)
              have q3 : IntKind.i64.wrap (d1 : Int) = d1 := IntWalk.i64_in _ (by omega)
              have q4 : IntKind.i64.wrap ((d1 : Int) * 60) = d1 * 60 := IntWalk.i64_in _ (by omega)
              have q5 : IntKind.i64.wrap ((d1 : Int) * 60 + m1) = d1 * 60 + m1 := IntWalk.i64_in _ (by omega)
              clear hn hpj hzg
              by_cases a1 : 59 < n % 100
              · have hrr : Hid (zrest s = (0, 3)) := Lib.hid (by rw [hzr.out, hrn.out]; show (if 59 < n % 100 then _ else _) = _; rw [if_pos a1])
                have b1 : decide ((59 : Int) < m1) = true := decide_eq_true (by omega)
                clear a1 hm1 hd1
                go_wp2_with fail
                go_ret2
                exact ⟨by rw [hf.out, hrr.out]; rfl, hB.out⟩
              · have b1 : decide ((59 : Int) < m1) = false := decide_eq_false (by omega)
                by_cases a2 : 840 < n / 100 * 60 + n % 100
                · have hrr : Hid (zrest s = (0, 2)) := Lib.hid (by rw [hzr.out, hrn.out]; show (if 59 < n % 100 then _ else _) = _; rw [if_neg a1, if_pos a2])
                  have b2 : decide ((840 : Int) < d1 * 60 + m1) = true := decide_eq_true (by omega)
                  clear a1 a2 hm1 hd1
                  go_wp2_with fail
                  go_ret2
                  exact ⟨by rw [hf.out, hrr.out]; rfl, hB.out⟩
                · have hrr : Hid (zrest s = (((n / 100 * 60 + n % 100 : Nat) : Int), 0)) := Lib.hid (by rw [hzr.out, hrn.out]; show (if 59 < n % 100 then _ else _) = _; rw [if_neg a1, if_neg a2, hbt.out]; rfl)
                  have b2 : decide ((840 : Int) < d1 * 60 + m1) = false := decide_eq_false (by omega)
                  have w8 : IntKind.i64.wrap (-((d1 : Int) * 60 + m1)) = -((d1 : Int) * 60 + m1) := IntWalk.i64_in _ (by omega)
                  have hfin : Hid (((n / 100 * 60 + n % 100 : Nat) : Int) = (d1 : Int) * 60 + m1) := Lib.hid (by omega)
                  clear a1 a2 hm1 hd1
                  go_wp2_with fail
                  go_ret2
                  exact ⟨by rw [hf.out, hrr.out, hfin.out]; rfl, hB.out⟩
        · clear hsg hHs
          have hzr : Hid (zrest s = match zdg s 4 1 0 with
              | none => (0, 3)
              | some n => if 59 < n % 100 then (0, 3) else if 840 < n / 100 * 60 + n % 100 then (0, 2) else (if bt s 0 = 45 then -((n / 100 * 60 + n % 100 : Nat) : Int) else ((n / 100 * 60 + n % 100 : Nat) : Int), 0)) := Lib.hid (by conv => lhs; unfold zrest; rw [if_pos ⟨h5, by rw [hbt.out]; decide⟩])
          have hd5 := Lib.hid h5
          obtain ⟨r, hr⟩ : ∃ r, zdg s 4 1 0 = r := ⟨_, rfl⟩
          have hHr := Lib.hid hr
          rw [hr] at hzr
          have g5 : ((s.size : Int) == 5) = true := by rw [h5]; rfl
          have g6 : ((s.size : Int) != 5) = false := by rw [bne, g5]; rfl
          clear hr
          go_enter Tryd.func55, Tryd.ntmps55
          go_wp2_with (first
            | (go_at_call 67; refine (Tryd.dZones _).mono ?_; rintro e W1 ⟨rfl, hb1, hown⟩; have hHb1 := Lib.hid hb1; have hHown := Lib.hid hown; clear hb1 hown)
            | (go_at_call 68; refine (hcU.out _ hHb1.out).mono ?_; rintro e W2 ⟨rfl, hb2⟩; have hHb2 := Lib.hid (hHb1.out.trans (hb2.mono hHb1.out.size)); have hown2 := hHown.out.kept (up hb2 none) (by simp); clear hb2)
            | (at_lookup; refine wpList_lookup_own_ok_int _ rfl _ _ 97 rfl 9 3 .i64 (string_keyed Tryd.underlying9) Tryd.underlying97 Tryd.underlying3 (by kernel_rfl) w.heap.size 12 zD rfl hown2 _ _ rfl (WideMaps.keyOf_string_mk Tryd.underlying9 (by unfold maxLen; omega)) ?_; intro c hat hwc; rw [← hzh.out]; have hcz := Lib.hid (hHzc.out c hat); clear hat hwc hown2)
          )
          have hBs := Lib.hid hHb2.out
          go_loopw [6, 7] (fun s6 s7 wr => ∃ (j n : Nat), j ≤ 5 ∧ 1 ≤ j ∧ s7 = .int .i64 j ∧ s6 = .int .i64 n ∧ n + 1 ≤ 10 ^ j ∧ Hid (zdg s (5 - j) j n = r) ∧ Hid (Below w.heap.size w wr)) (fun _ s7 _ => 5 - (intOf s7).toNat)
          case atStart => exact ⟨1, 0, by omega, by omega, rfl, rfl, by simp, hHr, hBs⟩
          case round =>
            obtain ⟨j, n, hj, hj1, rfl, rfl, hn, hzg, hB⟩ := hrel
            have i0 : (0 : Int) ≤ j := by omega
            have hpj : 10 ^ j ≤ 10 ^ 5 := Nat.pow_le_pow_right (by omega) (by omega)
            by_cases hlt : j < 5
            · have hjs : j < s.size := by have := hd5.out; omega
              have i1 : (j : Int) < s.size := by omega
              have i3 : decide ((j : Int) < s.size) = true := decide_eq_true i1
              obtain ⟨c, hc⟩ : ∃ c, (s[j]'hjs).toNat = c := ⟨_, rfl⟩
              have hbj : bt s j = c := (bt_eq s j hjs).trans hc
              have hcd : Hid (Calls Tryd.prog 53 #[.int .u8 (c : Int)] wr fun e w' => e = .returned (.bool (isDg c)) ∧ w' = wr) := Lib.hid (Tryd.pDigit c wr)
              have hst : zdg s (5 - j) j n = if isDg c = true then zdg s (5 - (j + 1)) (j + 1) (10 * n + (c - 48)) else none := by
                rw [show 5 - j = (5 - (j + 1)) + 1 by omega, zdg, hbj]
              have hst2 := hst.symm.trans hzg.out
              cases hdg : isDg c
              · rw [hdg] at hcd hst2
                rw [if_neg (by decide)] at hst2
                have hrr : Hid (zrest s = (0, 3)) := Lib.hid (by rw [hzr.out, ← hst2])
                clear hst hst2 hdg hbj hpj hn
                go_wp2_with (go_at_call 53; refine (hcd.out).mono ?_; rintro e w' ⟨rfl, rfl⟩)
                go_ret2
                exact ⟨by rw [hf.out, hrr.out]; rfl, hB.out⟩
              · rw [hdg] at hcd hst2
                rw [if_pos rfl] at hst2
                have hHst := Lib.hid hst2
                have hc1 : 48 ≤ c ∧ c ≤ 57 := by unfold isDg at hdg; simpa using hdg
                have u1 : IntKind.u8.wrap ((c : Int) - 48) = ((c - 48 : Nat) : Int) := by
                  have h : IntKind.u8.wrap ((c : Int) - 48) = ((c : Int) - 48) % 256 := rfl
                  rw [h]; omega
                obtain ⟨d, hd⟩ : ∃ d, c - 48 = d := ⟨_, rfl⟩
                rw [hd] at u1 hHst
                have u2 : IntKind.i64.wrap (10 * (n : Int)) = 10 * n := IntWalk.i64_in _ (by omega)
                have u3 : IntKind.i64.wrap (d : Int) = d := IntWalk.i64_in _ (by omega)
                have u4 : IntKind.i64.wrap (10 * (n : Int) + d) = 10 * n + d := IntWalk.i64_in _ (by omega)
                have u5 : IntKind.i64.wrap ((j : Int) + 1) = j + 1 := IntWalk.i64_in _ (by omega)
                have hn2 : 10 * n + d + 1 ≤ 10 ^ (j + 1) := by rw [Nat.pow_succ]; omega
                have hHn2 := Lib.hid hn2
                clear hst hst2 hdg hbj hpj hn hd hc1 hn2
                go_wp2_with (go_at_call 53; refine (hcd.out).mono ?_; rintro e w' ⟨rfl, rfl⟩)
                go_roundw
                case rel => exact ⟨j + 1, 10 * n + d, by omega, by omega, by simp, by simp, hHn2.out, hHst, hB⟩
                case measure => simp [intOf]; omega
            · obtain rfl : j = 5 := by omega
              have i3 : decide (((5 : Nat) : Int) < s.size) = false := decide_eq_false (by have := hd5.out; omega)
              have i4 : decide ((5 : Int) < s.size) = false := decide_eq_false (by have := hd5.out; omega)
              have hrn : Hid (r = some n) := Lib.hid (by have h := hzg.out; rw [Nat.sub_self, zdg] at h; exact h.symm)
              obtain ⟨m1, hm1⟩ : ∃ m1, n % 100 = m1 := ⟨_, rfl⟩
              obtain ⟨d1, hd1⟩ : ∃ d1, n / 100 = d1 := ⟨_, rfl⟩
              have q0 : (n : Int).tmod 100 = (m1 : Int) := by rw [Int.tmod_eq_emod_of_nonneg (by omega)]; omega
              have q1 : (n : Int).tdiv 100 = (d1 : Int) := by rw [Int.tdiv_eq_ediv_of_nonneg (by omega)]; omega
              have q2 : IntKind.i64.wrap (m1 : Int) = m1 := IntWalk.i64_in _ (by omega)
              have q3 : IntKind.i64.wrap (d1 : Int) = d1 := IntWalk.i64_in _ (by omega)
              have q4 : IntKind.i64.wrap ((d1 : Int) * 60) = d1 * 60 := IntWalk.i64_in _ (by omega)
              have q5 : IntKind.i64.wrap ((d1 : Int) * 60 + m1) = d1 * 60 + m1 := IntWalk.i64_in _ (by omega)
              clear hn hpj hzg
              by_cases a1 : 59 < n % 100
              · have hrr : Hid (zrest s = (0, 3)) := Lib.hid (by rw [hzr.out, hrn.out]; show (if 59 < n % 100 then _ else _) = _; rw [if_pos a1])
                have b1 : decide ((59 : Int) < m1) = true := decide_eq_true (by omega)
                clear a1 hm1 hd1
                go_wp2_with fail
                go_ret2
                exact ⟨by rw [hf.out, hrr.out]; rfl, hB.out⟩
              · have b1 : decide ((59 : Int) < m1) = false := decide_eq_false (by omega)
                by_cases a2 : 840 < n / 100 * 60 + n % 100
                · have hrr : Hid (zrest s = (0, 2)) := Lib.hid (by rw [hzr.out, hrn.out]; show (if 59 < n % 100 then _ else _) = _; rw [if_neg a1, if_pos a2])
                  have b2 : decide ((840 : Int) < d1 * 60 + m1) = true := decide_eq_true (by omega)
                  clear a1 a2 hm1 hd1
                  go_wp2_with fail
                  go_ret2
                  exact ⟨by rw [hf.out, hrr.out]; rfl, hB.out⟩
                · have hrr : Hid (zrest s = (-((n / 100 * 60 + n % 100 : Nat) : Int), 0)) := Lib.hid (by rw [hzr.out, hrn.out]; show (if 59 < n % 100 then _ else _) = _; rw [if_neg a1, if_neg a2, hbt.out]; rfl)
                  have b2 : decide ((840 : Int) < d1 * 60 + m1) = false := decide_eq_false (by omega)
                  have w8 : IntKind.i64.wrap (-((d1 : Int) * 60 + m1)) = -((d1 : Int) * 60 + m1) := IntWalk.i64_in _ (by omega)
                  have hfin : Hid (((n / 100 * 60 + n % 100 : Nat) : Int) = (d1 : Int) * 60 + m1) := Lib.hid (by omega)
                  clear a1 a2 hm1 hd1
                  go_wp2_with fail
                  go_ret2
                  exact ⟨by rw [hf.out, hrr.out, hfin.out]; rfl, hB.out⟩
      · have hr : Hid (zrest s = (0, 3)) := Lib.hid (by unfold zrest; rw [hbt.out, if_neg (by omega)])
        have g1 : ((b0 : Int) == 43) = false := beq_false_of_ne (by omega)
        have g2 : ((b0 : Int) == 45) = false := beq_false_of_ne (by omega)
        have g5 : ((s.size : Int) == 5) = true := by rw [h5]; rfl
        have g6 : ((s.size : Int) != 5) = false := by rw [bne, g5]; rfl
        have g7 : ((b0 : Int) != 43) = true := by rw [bne, g1]; rfl
        have g8 : ((b0 : Int) != 45) = true := by rw [bne, g2]; rfl
        have g9 : ¬ b0 = 43 := by omega
        have g10 : ¬ b0 = 45 := by omega
        clear hsg
        go_enter Tryd.func55, Tryd.ntmps55
        go_wp2_with (first
          | (go_at_call 67; refine (Tryd.dZones _).mono ?_; rintro e W1 ⟨rfl, hb1, hown⟩; have hHb1 := Lib.hid hb1; have hHown := Lib.hid hown; clear hb1 hown)
          | (go_at_call 68; refine (hcU.out _ hHb1.out).mono ?_; rintro e W2 ⟨rfl, hb2⟩; have hHb2 := Lib.hid (hHb1.out.trans (hb2.mono hHb1.out.size)); have hown2 := hHown.out.kept (up hb2 none) (by simp); clear hb2)
          | (at_lookup; refine wpList_lookup_own_ok_int _ rfl _ _ 97 rfl 9 3 .i64 (string_keyed Tryd.underlying9) Tryd.underlying97 Tryd.underlying3 (by kernel_rfl) w.heap.size 12 zD rfl hown2 _ _ rfl (WideMaps.keyOf_string_mk Tryd.underlying9 (by unfold maxLen; omega)) ?_; intro c hat hwc; rw [← hzh.out]; have hcz := Lib.hid (hHzc.out c hat); clear hat hwc hown2)
        )
        go_ret2
        exact ⟨by rw [hf.out, hr.out]; rfl, hHb2.out⟩
    · have hr : Hid (zrest s = (0, 3)) := Lib.hid (by unfold zrest; rw [if_neg (by omega)])
      have g5 : ((s.size : Int) == 5) = false := beq_false_of_ne (by omega)
      have g6 : ((s.size : Int) != 5) = true := by rw [bne, g5]; rfl
      go_enter Tryd.func55, Tryd.ntmps55
      go_wp2_with (first
        | (go_at_call 67; refine (Tryd.dZones _).mono ?_; rintro e W1 ⟨rfl, hb1, hown⟩; have hHb1 := Lib.hid hb1; have hHown := Lib.hid hown; clear hb1 hown)
        | (go_at_call 68; refine (hcU.out _ hHb1.out).mono ?_; rintro e W2 ⟨rfl, hb2⟩; have hHb2 := Lib.hid (hHb1.out.trans (hb2.mono hHb1.out.size)); have hown2 := hHown.out.kept (up hb2 none) (by simp); clear hb2)
        | (at_lookup; refine wpList_lookup_own_ok_int _ rfl _ _ 97 rfl 9 3 .i64 (string_keyed Tryd.underlying9) Tryd.underlying97 Tryd.underlying3 (by kernel_rfl) w.heap.size 12 zD rfl hown2 _ _ rfl (WideMaps.keyOf_string_mk Tryd.underlying9 (by unfold maxLen; omega)) ?_; intro c hat hwc; rw [← hzh.out]; have hcz := Lib.hid (hHzc.out c hat); clear hat hwc hown2)
      )
      go_ret2
      exact ⟨by rw [hf.out, hr.out]; rfl, hHb2.out⟩
  · cases h2 : znon s
    · have hf : Hid (zone s = (zc s, 0)) := Lib.hid (by rw [hz.out, h1, h2]; rfl)
      rw [h1] at hzh
      rw [h2] at hcC
      clear h1 h2 hz
      go_enter Tryd.func55, Tryd.ntmps55
      go_wp2_with (first
        | (go_at_call 67; refine (Tryd.dZones _).mono ?_; rintro e W1 ⟨rfl, hb1, hown⟩; have hHb1 := Lib.hid hb1; have hHown := Lib.hid hown; clear hb1 hown)
        | (go_at_call 68; refine (hcU.out _ hHb1.out).mono ?_; rintro e W2 ⟨rfl, hb2⟩; have hHb2 := Lib.hid (hHb1.out.trans (hb2.mono hHb1.out.size)); have hown2 := hHown.out.kept (up hb2 none) (by simp); clear hb2)
        | (at_lookup; refine wpList_lookup_own_ok_int _ rfl _ _ 97 rfl 9 3 .i64 (string_keyed Tryd.underlying9) Tryd.underlying97 Tryd.underlying3 (by kernel_rfl) w.heap.size 12 zD rfl hown2 _ _ rfl (WideMaps.keyOf_string_mk Tryd.underlying9 (by unfold maxLen; omega)) ?_; intro c hat hwc; rw [← hzh.out]; have hcz := Lib.hid (hHzc.out c hat); clear hat hwc hown2)
        | (go_at_call 69; refine (hcC.out _).mono ?_; rintro e W3 ⟨rfl, hb3⟩; have hHb3 := Lib.hid (hHb2.out.trans (hb3.mono hHb2.out.size)); clear hb3)
      )
      go_ret2
      exact ⟨by rw [hf.out, hcz.out]; rfl, hHb3.out⟩
    · have hf : Hid (zone s = zrest s) := Lib.hid (by rw [hz.out, h1, h2]; rfl)
      rw [h1] at hzh
      rw [h2] at hcC
      clear h1 h2 hz
      by_cases h5 : s.size = 5
      · have h0lt : 0 < s.size := by omega
        obtain ⟨b0, hb0⟩ : ∃ b, (s[0]'h0lt).toNat = b := ⟨_, rfl⟩
        have hbt : Hid (bt s 0 = b0) := Lib.hid ((bt_eq s 0 h0lt).trans hb0)
        have h50 : (0 : Int) < (s.size : Int) := by omega
        by_cases hsg : b0 = 43 ∨ b0 = 45
        · have hHs := Lib.hid hsg
          rcases hHs.out with rfl | rfl
          · clear hsg hHs
            have hzr : Hid (zrest s = match zdg s 4 1 0 with
                | none => (0, 3)
                | some n => if 59 < n % 100 then (0, 3) else if 840 < n / 100 * 60 + n % 100 then (0, 2) else (if bt s 0 = 45 then -((n / 100 * 60 + n % 100 : Nat) : Int) else ((n / 100 * 60 + n % 100 : Nat) : Int), 0)) := Lib.hid (by conv => lhs; unfold zrest; rw [if_pos ⟨h5, by rw [hbt.out]; decide⟩])
            have hd5 := Lib.hid h5
            obtain ⟨r, hr⟩ : ∃ r, zdg s 4 1 0 = r := ⟨_, rfl⟩
            have hHr := Lib.hid hr
            rw [hr] at hzr
            have g5 : ((s.size : Int) == 5) = true := by rw [h5]; rfl
            have g6 : ((s.size : Int) != 5) = false := by rw [bne, g5]; rfl
            clear hr
            go_enter Tryd.func55, Tryd.ntmps55
            go_wp2_with (first
              | (go_at_call 67; refine (Tryd.dZones _).mono ?_; rintro e W1 ⟨rfl, hb1, hown⟩; have hHb1 := Lib.hid hb1; have hHown := Lib.hid hown; clear hb1 hown)
              | (go_at_call 68; refine (hcU.out _ hHb1.out).mono ?_; rintro e W2 ⟨rfl, hb2⟩; have hHb2 := Lib.hid (hHb1.out.trans (hb2.mono hHb1.out.size)); have hown2 := hHown.out.kept (up hb2 none) (by simp); clear hb2)
              | (at_lookup; refine wpList_lookup_own_ok_int _ rfl _ _ 97 rfl 9 3 .i64 (string_keyed Tryd.underlying9) Tryd.underlying97 Tryd.underlying3 (by kernel_rfl) w.heap.size 12 zD rfl hown2 _ _ rfl (WideMaps.keyOf_string_mk Tryd.underlying9 (by unfold maxLen; omega)) ?_; intro c hat hwc; rw [← hzh.out]; have hcz := Lib.hid (hHzc.out c hat); clear hat hwc hown2)
              | (go_at_call 69; refine (hcC.out _).mono ?_; rintro e W3 ⟨rfl, hb3⟩; have hHb3 := Lib.hid (hHb2.out.trans (hb3.mono hHb2.out.size)); clear hb3))
            have hBs := Lib.hid hHb3.out
            go_loopw [6, 7] (fun s6 s7 wr => ∃ (j n : Nat), j ≤ 5 ∧ 1 ≤ j ∧ s7 = .int .i64 j ∧ s6 = .int .i64 n ∧ n + 1 ≤ 10 ^ j ∧ Hid (zdg s (5 - j) j n = r) ∧ Hid (Below w.heap.size w wr)) (fun _ s7 _ => 5 - (intOf s7).toNat)
            case atStart => exact ⟨1, 0, by omega, by omega, rfl, rfl, by simp, hHr, hBs⟩
            case round =>
              obtain ⟨j, n, hj, hj1, rfl, rfl, hn, hzg, hB⟩ := hrel
              have i0 : (0 : Int) ≤ j := by omega
              have hpj : 10 ^ j ≤ 10 ^ 5 := Nat.pow_le_pow_right (by omega) (by omega)
              by_cases hlt : j < 5
              · have hjs : j < s.size := by have := hd5.out; omega
                have i1 : (j : Int) < s.size := by omega
                have i3 : decide ((j : Int) < s.size) = true := decide_eq_true i1
                obtain ⟨c, hc⟩ : ∃ c, (s[j]'hjs).toNat = c := ⟨_, rfl⟩
                have hbj : bt s j = c := (bt_eq s j hjs).trans hc
                have hcd : Hid (Calls Tryd.prog 53 #[.int .u8 (c : Int)] wr fun e w' => e = .returned (.bool (isDg c)) ∧ w' = wr) := Lib.hid (Tryd.pDigit c wr)
                have hst : zdg s (5 - j) j n = if isDg c = true then zdg s (5 - (j + 1)) (j + 1) (10 * n + (c - 48)) else none := by
                  rw [show 5 - j = (5 - (j + 1)) + 1 by omega, zdg, hbj]
                have hst2 := hst.symm.trans hzg.out
                cases hdg : isDg c
                · rw [hdg] at hcd hst2
                  rw [if_neg (by decide)] at hst2
                  have hrr : Hid (zrest s = (0, 3)) := Lib.hid (by rw [hzr.out, ← hst2])
                  clear hst hst2 hdg hbj hpj hn
                  go_wp2_with (go_at_call 53; refine (hcd.out).mono ?_; rintro e w' ⟨rfl, rfl⟩)
                  go_ret2
                  exact ⟨by rw [hf.out, hrr.out]; rfl, hB.out⟩
                · rw [hdg] at hcd hst2
                  rw [if_pos rfl] at hst2
                  have hHst := Lib.hid hst2
                  have hc1 : 48 ≤ c ∧ c ≤ 57 := by unfold isDg at hdg; simpa using hdg
                  have u1 : IntKind.u8.wrap ((c : Int) - 48) = ((c - 48 : Nat) : Int) := by
                    have h : IntKind.u8.wrap ((c : Int) - 48) = ((c : Int) - 48) % 256 := rfl
                    rw [h]; omega
                  obtain ⟨d, hd⟩ : ∃ d, c - 48 = d := ⟨_, rfl⟩
                  rw [hd] at u1 hHst
                  have u2 : IntKind.i64.wrap (10 * (n : Int)) = 10 * n := IntWalk.i64_in _ (by omega)
                  have u3 : IntKind.i64.wrap (d : Int) = d := IntWalk.i64_in _ (by omega)
                  have u4 : IntKind.i64.wrap (10 * (n : Int) + d) = 10 * n + d := IntWalk.i64_in _ (by omega)
                  have u5 : IntKind.i64.wrap ((j : Int) + 1) = j + 1 := IntWalk.i64_in _ (by omega)
                  have hn2 : 10 * n + d + 1 ≤ 10 ^ (j + 1) := by rw [Nat.pow_succ]; omega
                  have hHn2 := Lib.hid hn2
                  clear hst hst2 hdg hbj hpj hn hd hc1 hn2
                  go_wp2_with (go_at_call 53; refine (hcd.out).mono ?_; rintro e w' ⟨rfl, rfl⟩)
                  go_roundw
                  case rel => exact ⟨j + 1, 10 * n + d, by omega, by omega, by simp, by simp, hHn2.out, hHst, hB⟩
                  case measure => simp [intOf]; omega
              · obtain rfl : j = 5 := by omega
                have i3 : decide (((5 : Nat) : Int) < s.size) = false := decide_eq_false (by have := hd5.out; omega)
                have i4 : decide ((5 : Int) < s.size) = false := decide_eq_false (by have := hd5.out; omega)
                have hrn : Hid (r = some n) := Lib.hid (by have h := hzg.out; rw [Nat.sub_self, zdg] at h; exact h.symm)
                obtain ⟨m1, hm1⟩ : ∃ m1, n % 100 = m1 := ⟨_, rfl⟩
                obtain ⟨d1, hd1⟩ : ∃ d1, n / 100 = d1 := ⟨_, rfl⟩
                have q0 : (n : Int).tmod 100 = (m1 : Int) := by rw [Int.tmod_eq_emod_of_nonneg (by omega)]; omega
                have q1 : (n : Int).tdiv 100 = (d1 : Int) := by rw [Int.tdiv_eq_ediv_of_nonneg (by omega)]; omega
                have q2 : IntKind.i64.wrap (m1 : Int) = m1 := IntWalk.i64_in _ (by omega)
                have q3 : IntKind.i64.wrap (d1 : Int) = d1 := IntWalk.i64_in _ (by omega)
                have q4 : IntKind.i64.wrap ((d1 : Int) * 60) = d1 * 60 := IntWalk.i64_in _ (by omega)
                have q5 : IntKind.i64.wrap ((d1 : Int) * 60 + m1) = d1 * 60 + m1 := IntWalk.i64_in _ (by omega)
                clear hn hpj hzg
                by_cases a1 : 59 < n % 100
                · have hrr : Hid (zrest s = (0, 3)) := Lib.hid (by rw [hzr.out, hrn.out]; show (if 59 < n % 100 then _ else _) = _; rw [if_pos a1])
                  have b1 : decide ((59 : Int) < m1) = true := decide_eq_true (by omega)
                  clear a1 hm1 hd1
                  go_wp2_with fail
                  go_ret2
                  exact ⟨by rw [hf.out, hrr.out]; rfl, hB.out⟩
                · have b1 : decide ((59 : Int) < m1) = false := decide_eq_false (by omega)
                  by_cases a2 : 840 < n / 100 * 60 + n % 100
                  · have hrr : Hid (zrest s = (0, 2)) := Lib.hid (by rw [hzr.out, hrn.out]; show (if 59 < n % 100 then _ else _) = _; rw [if_neg a1, if_pos a2])
                    have b2 : decide ((840 : Int) < d1 * 60 + m1) = true := decide_eq_true (by omega)
                    clear a1 a2 hm1 hd1
                    go_wp2_with fail
                    go_ret2
                    exact ⟨by rw [hf.out, hrr.out]; rfl, hB.out⟩
                  · have hrr : Hid (zrest s = (((n / 100 * 60 + n % 100 : Nat) : Int), 0)) := Lib.hid (by rw [hzr.out, hrn.out]; show (if 59 < n % 100 then _ else _) = _; rw [if_neg a1, if_neg a2, hbt.out]; rfl)
                    have b2 : decide ((840 : Int) < d1 * 60 + m1) = false := decide_eq_false (by omega)
                    have w8 : IntKind.i64.wrap (-((d1 : Int) * 60 + m1)) = -((d1 : Int) * 60 + m1) := IntWalk.i64_in _ (by omega)
                    have hfin : Hid (((n / 100 * 60 + n % 100 : Nat) : Int) = (d1 : Int) * 60 + m1) := Lib.hid (by omega)
                    clear a1 a2 hm1 hd1
                    go_wp2_with fail
                    go_ret2
                    exact ⟨by rw [hf.out, hrr.out, hfin.out]; rfl, hB.out⟩
          · clear hsg hHs
            have hzr : Hid (zrest s = match zdg s 4 1 0 with
                | none => (0, 3)
                | some n => if 59 < n % 100 then (0, 3) else if 840 < n / 100 * 60 + n % 100 then (0, 2) else (if bt s 0 = 45 then -((n / 100 * 60 + n % 100 : Nat) : Int) else ((n / 100 * 60 + n % 100 : Nat) : Int), 0)) := Lib.hid (by conv => lhs; unfold zrest; rw [if_pos ⟨h5, by rw [hbt.out]; decide⟩])
            have hd5 := Lib.hid h5
            obtain ⟨r, hr⟩ : ∃ r, zdg s 4 1 0 = r := ⟨_, rfl⟩
            have hHr := Lib.hid hr
            rw [hr] at hzr
            have g5 : ((s.size : Int) == 5) = true := by rw [h5]; rfl
            have g6 : ((s.size : Int) != 5) = false := by rw [bne, g5]; rfl
            clear hr
            go_enter Tryd.func55, Tryd.ntmps55
            go_wp2_with (first
              | (go_at_call 67; refine (Tryd.dZones _).mono ?_; rintro e W1 ⟨rfl, hb1, hown⟩; have hHb1 := Lib.hid hb1; have hHown := Lib.hid hown; clear hb1 hown)
              | (go_at_call 68; refine (hcU.out _ hHb1.out).mono ?_; rintro e W2 ⟨rfl, hb2⟩; have hHb2 := Lib.hid (hHb1.out.trans (hb2.mono hHb1.out.size)); have hown2 := hHown.out.kept (up hb2 none) (by simp); clear hb2)
              | (at_lookup; refine wpList_lookup_own_ok_int _ rfl _ _ 97 rfl 9 3 .i64 (string_keyed Tryd.underlying9) Tryd.underlying97 Tryd.underlying3 (by kernel_rfl) w.heap.size 12 zD rfl hown2 _ _ rfl (WideMaps.keyOf_string_mk Tryd.underlying9 (by unfold maxLen; omega)) ?_; intro c hat hwc; rw [← hzh.out]; have hcz := Lib.hid (hHzc.out c hat); clear hat hwc hown2)
              | (go_at_call 69; refine (hcC.out _).mono ?_; rintro e W3 ⟨rfl, hb3⟩; have hHb3 := Lib.hid (hHb2.out.trans (hb3.mono hHb2.out.size)); clear hb3))
            have hBs := Lib.hid hHb3.out
            go_loopw [6, 7] (fun s6 s7 wr => ∃ (j n : Nat), j ≤ 5 ∧ 1 ≤ j ∧ s7 = .int .i64 j ∧ s6 = .int .i64 n ∧ n + 1 ≤ 10 ^ j ∧ Hid (zdg s (5 - j) j n = r) ∧ Hid (Below w.heap.size w wr)) (fun _ s7 _ => 5 - (intOf s7).toNat)
            case atStart => exact ⟨1, 0, by omega, by omega, rfl, rfl, by simp, hHr, hBs⟩
            case round =>
              obtain ⟨j, n, hj, hj1, rfl, rfl, hn, hzg, hB⟩ := hrel
              have i0 : (0 : Int) ≤ j := by omega
              have hpj : 10 ^ j ≤ 10 ^ 5 := Nat.pow_le_pow_right (by omega) (by omega)
              by_cases hlt : j < 5
              · have hjs : j < s.size := by have := hd5.out; omega
                have i1 : (j : Int) < s.size := by omega
                have i3 : decide ((j : Int) < s.size) = true := decide_eq_true i1
                obtain ⟨c, hc⟩ : ∃ c, (s[j]'hjs).toNat = c := ⟨_, rfl⟩
                have hbj : bt s j = c := (bt_eq s j hjs).trans hc
                have hcd : Hid (Calls Tryd.prog 53 #[.int .u8 (c : Int)] wr fun e w' => e = .returned (.bool (isDg c)) ∧ w' = wr) := Lib.hid (Tryd.pDigit c wr)
                have hst : zdg s (5 - j) j n = if isDg c = true then zdg s (5 - (j + 1)) (j + 1) (10 * n + (c - 48)) else none := by
                  rw [show 5 - j = (5 - (j + 1)) + 1 by omega, zdg, hbj]
                have hst2 := hst.symm.trans hzg.out
                cases hdg : isDg c
                · rw [hdg] at hcd hst2
                  rw [if_neg (by decide)] at hst2
                  have hrr : Hid (zrest s = (0, 3)) := Lib.hid (by rw [hzr.out, ← hst2])
                  clear hst hst2 hdg hbj hpj hn
                  go_wp2_with (go_at_call 53; refine (hcd.out).mono ?_; rintro e w' ⟨rfl, rfl⟩)
                  go_ret2
                  exact ⟨by rw [hf.out, hrr.out]; rfl, hB.out⟩
                · rw [hdg] at hcd hst2
                  rw [if_pos rfl] at hst2
                  have hHst := Lib.hid hst2
                  have hc1 : 48 ≤ c ∧ c ≤ 57 := by unfold isDg at hdg; simpa using hdg
                  have u1 : IntKind.u8.wrap ((c : Int) - 48) = ((c - 48 : Nat) : Int) := by
                    have h : IntKind.u8.wrap ((c : Int) - 48) = ((c : Int) - 48) % 256 := rfl
                    rw [h]; omega
                  obtain ⟨d, hd⟩ : ∃ d, c - 48 = d := ⟨_, rfl⟩
                  rw [hd] at u1 hHst
                  have u2 : IntKind.i64.wrap (10 * (n : Int)) = 10 * n := IntWalk.i64_in _ (by omega)
                  have u3 : IntKind.i64.wrap (d : Int) = d := IntWalk.i64_in _ (by omega)
                  have u4 : IntKind.i64.wrap (10 * (n : Int) + d) = 10 * n + d := IntWalk.i64_in _ (by omega)
                  have u5 : IntKind.i64.wrap ((j : Int) + 1) = j + 1 := IntWalk.i64_in _ (by omega)
                  have hn2 : 10 * n + d + 1 ≤ 10 ^ (j + 1) := by rw [Nat.pow_succ]; omega
                  have hHn2 := Lib.hid hn2
                  clear hst hst2 hdg hbj hpj hn hd hc1 hn2
                  go_wp2_with (go_at_call 53; refine (hcd.out).mono ?_; rintro e w' ⟨rfl, rfl⟩)
                  go_roundw
                  case rel => exact ⟨j + 1, 10 * n + d, by omega, by omega, by simp, by simp, hHn2.out, hHst, hB⟩
                  case measure => simp [intOf]; omega
              · obtain rfl : j = 5 := by omega
                have i3 : decide (((5 : Nat) : Int) < s.size) = false := decide_eq_false (by have := hd5.out; omega)
                have i4 : decide ((5 : Int) < s.size) = false := decide_eq_false (by have := hd5.out; omega)
                have hrn : Hid (r = some n) := Lib.hid (by have h := hzg.out; rw [Nat.sub_self, zdg] at h; exact h.symm)
                obtain ⟨m1, hm1⟩ : ∃ m1, n % 100 = m1 := ⟨_, rfl⟩
                obtain ⟨d1, hd1⟩ : ∃ d1, n / 100 = d1 := ⟨_, rfl⟩
                have q0 : (n : Int).tmod 100 = (m1 : Int) := by rw [Int.tmod_eq_emod_of_nonneg (by omega)]; omega
                have q1 : (n : Int).tdiv 100 = (d1 : Int) := by rw [Int.tdiv_eq_ediv_of_nonneg (by omega)]; omega
                have q2 : IntKind.i64.wrap (m1 : Int) = m1 := IntWalk.i64_in _ (by omega)
                have q3 : IntKind.i64.wrap (d1 : Int) = d1 := IntWalk.i64_in _ (by omega)
                have q4 : IntKind.i64.wrap ((d1 : Int) * 60) = d1 * 60 := IntWalk.i64_in _ (by omega)
                have q5 : IntKind.i64.wrap ((d1 : Int) * 60 + m1) = d1 * 60 + m1 := IntWalk.i64_in _ (by omega)
                clear hn hpj hzg
                by_cases a1 : 59 < n % 100
                · have hrr : Hid (zrest s = (0, 3)) := Lib.hid (by rw [hzr.out, hrn.out]; show (if 59 < n % 100 then _ else _) = _; rw [if_pos a1])
                  have b1 : decide ((59 : Int) < m1) = true := decide_eq_true (by omega)
                  clear a1 hm1 hd1
                  go_wp2_with fail
                  go_ret2
                  exact ⟨by rw [hf.out, hrr.out]; rfl, hB.out⟩
                · have b1 : decide ((59 : Int) < m1) = false := decide_eq_false (by omega)
                  by_cases a2 : 840 < n / 100 * 60 + n % 100
                  · have hrr : Hid (zrest s = (0, 2)) := Lib.hid (by rw [hzr.out, hrn.out]; show (if 59 < n % 100 then _ else _) = _; rw [if_neg a1, if_pos a2])
                    have b2 : decide ((840 : Int) < d1 * 60 + m1) = true := decide_eq_true (by omega)
                    clear a1 a2 hm1 hd1
                    go_wp2_with fail
                    go_ret2
                    exact ⟨by rw [hf.out, hrr.out]; rfl, hB.out⟩
                  · have hrr : Hid (zrest s = (-((n / 100 * 60 + n % 100 : Nat) : Int), 0)) := Lib.hid (by rw [hzr.out, hrn.out]; show (if 59 < n % 100 then _ else _) = _; rw [if_neg a1, if_neg a2, hbt.out]; rfl)
                    have b2 : decide ((840 : Int) < d1 * 60 + m1) = false := decide_eq_false (by omega)
                    have w8 : IntKind.i64.wrap (-((d1 : Int) * 60 + m1)) = -((d1 : Int) * 60 + m1) := IntWalk.i64_in _ (by omega)
                    have hfin : Hid (((n / 100 * 60 + n % 100 : Nat) : Int) = (d1 : Int) * 60 + m1) := Lib.hid (by omega)
                    clear a1 a2 hm1 hd1
                    go_wp2_with fail
                    go_ret2
                    exact ⟨by rw [hf.out, hrr.out, hfin.out]; rfl, hB.out⟩
        · have hr : Hid (zrest s = (0, 3)) := Lib.hid (by unfold zrest; rw [hbt.out, if_neg (by omega)])
          have g1 : ((b0 : Int) == 43) = false := beq_false_of_ne (by omega)
          have g2 : ((b0 : Int) == 45) = false := beq_false_of_ne (by omega)
          have g5 : ((s.size : Int) == 5) = true := by rw [h5]; rfl
          have g6 : ((s.size : Int) != 5) = false := by rw [bne, g5]; rfl
          have g7 : ((b0 : Int) != 43) = true := by rw [bne, g1]; rfl
          have g8 : ((b0 : Int) != 45) = true := by rw [bne, g2]; rfl
          have g9 : ¬ b0 = 43 := by omega
          have g10 : ¬ b0 = 45 := by omega
          clear hsg
          go_enter Tryd.func55, Tryd.ntmps55
          go_wp2_with (first
            | (go_at_call 67; refine (Tryd.dZones _).mono ?_; rintro e W1 ⟨rfl, hb1, hown⟩; have hHb1 := Lib.hid hb1; have hHown := Lib.hid hown; clear hb1 hown)
            | (go_at_call 68; refine (hcU.out _ hHb1.out).mono ?_; rintro e W2 ⟨rfl, hb2⟩; have hHb2 := Lib.hid (hHb1.out.trans (hb2.mono hHb1.out.size)); have hown2 := hHown.out.kept (up hb2 none) (by simp); clear hb2)
            | (at_lookup; refine wpList_lookup_own_ok_int _ rfl _ _ 97 rfl 9 3 .i64 (string_keyed Tryd.underlying9) Tryd.underlying97 Tryd.underlying3 (by kernel_rfl) w.heap.size 12 zD rfl hown2 _ _ rfl (WideMaps.keyOf_string_mk Tryd.underlying9 (by unfold maxLen; omega)) ?_; intro c hat hwc; rw [← hzh.out]; have hcz := Lib.hid (hHzc.out c hat); clear hat hwc hown2)
            | (go_at_call 69; refine (hcC.out _).mono ?_; rintro e W3 ⟨rfl, hb3⟩; have hHb3 := Lib.hid (hHb2.out.trans (hb3.mono hHb2.out.size)); clear hb3)
          )
          go_ret2
          exact ⟨by rw [hf.out, hr.out]; rfl, hHb3.out⟩
      · have hr : Hid (zrest s = (0, 3)) := Lib.hid (by unfold zrest; rw [if_neg (by omega)])
        have g5 : ((s.size : Int) == 5) = false := beq_false_of_ne (by omega)
        have g6 : ((s.size : Int) != 5) = true := by rw [bne, g5]; rfl
        go_enter Tryd.func55, Tryd.ntmps55
        go_wp2_with (first
          | (go_at_call 67; refine (Tryd.dZones _).mono ?_; rintro e W1 ⟨rfl, hb1, hown⟩; have hHb1 := Lib.hid hb1; have hHown := Lib.hid hown; clear hb1 hown)
          | (go_at_call 68; refine (hcU.out _ hHb1.out).mono ?_; rintro e W2 ⟨rfl, hb2⟩; have hHb2 := Lib.hid (hHb1.out.trans (hb2.mono hHb1.out.size)); have hown2 := hHown.out.kept (up hb2 none) (by simp); clear hb2)
          | (at_lookup; refine wpList_lookup_own_ok_int _ rfl _ _ 97 rfl 9 3 .i64 (string_keyed Tryd.underlying9) Tryd.underlying97 Tryd.underlying3 (by kernel_rfl) w.heap.size 12 zD rfl hown2 _ _ rfl (WideMaps.keyOf_string_mk Tryd.underlying9 (by unfold maxLen; omega)) ?_; intro c hat hwc; rw [← hzh.out]; have hcz := Lib.hid (hHzc.out c hat); clear hat hwc hown2)
          | (go_at_call 69; refine (hcC.out _).mono ?_; rintro e W3 ⟨rfl, hb3⟩; have hHb3 := Lib.hid (hHb2.out.trans (hb3.mono hHb2.out.size)); clear hb3)
        )
        go_ret2
        exact ⟨by rw [hf.out, hr.out]; rfl, hHb3.out⟩
end Go.Proofs
