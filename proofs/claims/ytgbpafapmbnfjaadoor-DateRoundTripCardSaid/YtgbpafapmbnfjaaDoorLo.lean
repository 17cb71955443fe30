/- lower, the predicate of name -/
import Derived.Test.YtgbpafapmbnfjaaDoorSn
import Derived.Test.YtgbpafapmbnfjaaDoorDg
namespace Go.Proofs
open Go.RowKit Go.Shelf
set_option linter.unusedVariables false
set_option linter.unusedSimpArgs false
namespace TK
def loR (r : Int) : Int := if 65 ≤ r ∧ r ≤ 90 then r + 32 else r
def lo (s : ByteArray) : ByteArray := ⟨(Lib.mapD loR s.data.toList).toArray⟩
def leq (a b : ByteArray) : Bool := decide (a.data.toList = b.data.toList)
theorem leq_of (a b : ByteArray) : (a.toList == b.toList) = leq a b := by
  rw [ByteArray.toList_eq, ByteArray.toList_eq]
  unfold leq
  apply Bool.eq_iff_iff.2
  simp only [beq_iff_eq, decide_eq_true_eq]
end TK
open TK
set_option maxRecDepth 100000 in
theorem Tryd.lowerK (x : Nat) (hx : x ≤ 1114111) (w : World) : Calls Tryd.prog 78 #[.int .i32 (x : Int)] w fun e w' => e = .returned (.int .i32 (loR x)) ∧ w' = w := by
  by_cases h1 : 65 ≤ x
  · have b1 : decide (65 ≤ (x : Int)) = true := decide_eq_true (by omega)
    by_cases h2 : x ≤ 90
    · have b2 : decide ((x : Int) ≤ 90) = true := decide_eq_true (by omega)
      have hf : Hid (loR x = (x : Int) + 32) := Lib.hid (if_pos (by omega))
      have w1 : IntKind.i32.wrap ((x : Int) + 97) = x + 97 := IntWalk.i32_in _ (by omega)
      have w2 : IntKind.i32.wrap ((x : Int) + 97 - 65) = x + 32 := (IntWalk.i32_in _ (by omega)).trans (by omega)
      have w3 : IntKind.i32.wrap ((x : Int) + 32) = x + 32 := IntWalk.i32_in _ (by omega)
      clear h1 h2
      go_enter Tryd.func78, Tryd.ntmps78
      go_wp2
      go_ret
      exact ⟨by rw [hf.out]; rfl, rfl⟩
    · have b2 : decide ((x : Int) ≤ 90) = false := decide_eq_false (by omega)
      have hf : Hid (loR x = (x : Int)) := Lib.hid (if_neg (by omega))
      clear h1 h2
      go_enter Tryd.func78, Tryd.ntmps78
      go_wp2
      go_ret
      exact ⟨by rw [hf.out]; rfl, rfl⟩
  · have b1 : decide (65 ≤ (x : Int)) = false := decide_eq_false (by omega)
    have hf : Hid (loR x = (x : Int)) := Lib.hid (if_neg (by omega))
    clear h1
    go_enter Tryd.func78, Tryd.ntmps78
    go_wp2
    go_ret
    exact ⟨by rw [hf.out]; rfl, rfl⟩
theorem Tryd.cfLowerK (args : Array Value) (w : World) : (callFunc 78 args).run Tryd.prog w = .ok (.enter 78 args) w := enters_of Tryd.func78 (by kernel_rfl) rfl args w
set_option maxRecDepth 100000 in
theorem Tryd.lower (s : ByteArray) (hs : s.size ≤ 1000) (w : World) (hT : Tabs w) : Calls Tryd.prog 64 #[.string s] w fun e w' => e = .returned (.string (lo s)) ∧ Below w.heap.size w w' := by
  have cM : Calls Tryd.prog 77 #[.func (.func 78) #[] #[], .string s] w _ := Any.strings_Map_grows Tryd.lays230 Tryd.Builder_Extra_230 78 #[] Tryd.cfLowerK loR s w (by omega)
    (fun W x hx hb => (Tryd.lowerK x hx W).mono fun e w' h => ⟨h.1, by rw [h.2]; exact Below.refl _ _⟩) (fun x hx => by unfold loR; split <;> omega) hT.2.1
  have hHc := Lib.hid cM
  have hf : Hid (lo s = ⟨(Lib.mapD loR s.data.toList).toArray⟩) := Lib.hid rfl
  clear cM hT
  go_enter Tryd.func64, Tryd.ntmps64
  go_wp2_with (go_at_call 77; refine (hHc.out).mono ?_; rintro e w' ⟨rfl, hb⟩)
  go_ret
  exact ⟨by rw [hf.out]; rfl, hb⟩
set_option maxRecDepth 100000 in
set_option maxHeartbeats 1000000 in
theorem Tryd.nameK (a b : ByteArray) (ha : a.size ≤ 1000) (hb : b.size ≤ 1000) (B : Nat) (w : World) (hT : Tabs w) (hB : w.cell? ⟨B, 0, none⟩ = some (.string b)) : Calls Tryd.prog 63 (#[.string a] ++ #[.pointer (some ⟨B, 0, none⟩)]) w fun e w' => e = .returned (.bool (leq (lo a) (lo b))) ∧ Below w.heap.size w w' := by
  obtain ⟨C, q1, q2, q3⟩ : ∃ C : World → Prop, C { w with drawn := w.drawn + 1 } ∧ (∀ W, C W → Below w.heap.size w W) ∧ (∀ W W', C W → Below W.heap.size W W' → C W') :=
    ⟨fun W => Below w.heap.size w W, (Below.refl _ _).drew, fun W h => h, fun W W' h hb => h.trans (hb.mono h.size)⟩
  have k0 : Hid (∀ W, C W → W.cell? ⟨B, 0, none⟩ = some (.string b)) := Lib.hid (fun W hW => cell_keep (q2 W hW) hB)
  have h1 : Hid (∀ W, C W → Calls Tryd.prog 64 #[.string a] W fun e w' => e = .returned (.string (lo a)) ∧ C w') := Lib.hid fun W hW => (Tryd.lower a ha W (hT.below (q2 W hW))).mono fun e w' h => ⟨h.1, q3 _ _ hW h.2⟩
  have h2 : Hid (∀ W, C W → Calls Tryd.prog 64 #[.string b] W fun e w' => e = .returned (.string (lo b)) ∧ C w') := Lib.hid fun W hW => (Tryd.lower b hb W (hT.below (q2 W hW))).mono fun e w' h => ⟨h.1, q3 _ _ hW h.2⟩
  have hC1 := Lib.hid q1
  have hCV := Lib.hid q2
  generalize lo a = a' at *
  generalize lo b = b' at *
  clear hT hB q1 q2 q3
  go_enter Tryd.func63, Tryd.ntmps63
  go_wp2_with fail
  refine q_region C (by kernel_rfl) (by kernel_rfl) hC1.out ?_
  repeat (first
    | (with_reducible refine q_off ?_ ?_
       · rfl
       try simp only [Act.put, List.getElem_toArray, List.getElem_cons_zero, List.getElem_cons_succ, List.setIfInBounds_toArray, List.set_cons_zero, List.set_cons_succ])
    | (with_reducible refine q_lds2 Tryd.isAgg9 ?_ ?_ ⟨B, 0, none⟩ ?_ (.string b) k0.out ?_
       · rfl
       · rfl
       · rfl
       try simp only [Act.put, List.getElem_toArray, List.getElem_cons_zero, List.getElem_cons_succ, List.setIfInBounds_toArray, List.set_cons_zero, List.set_cons_succ])
    | (with_reducible refine wpQuiet_step ?_
       intro K hK
       go_simp
       first
       | (refine hK _ ?_; clear hK K)
       | (apply Exists.intro
          refine ⟨fun W hW => ?_, hK _ ?_⟩
          first
          | exact rfl
          | exact ⟨rfl, rfl⟩
          | (with_reducible exact h1.out W hW)
          | (with_reducible exact h2.out W hW)
          clear hK K)))
  refine wpQuiet_nil ?_
  intro V1 hV1
  have hb := hCV.out V1 hV1
  go_wp2_with fail
  go_ret
  exact ⟨by rw [← leq_of]; rfl, hb⟩
/-- the place of the first that has it -/
def TK.fx (q : ByteArray → Bool) : List ByteArray → Nat → Int
  | [], _ => -1
  | a :: l, k => if q a = true then (k : Int) else TK.fx q l (k + 1)
theorem Tryd.cfNameK (args : Array Value) (w : World) : (callFunc 63 args).run Tryd.prog w = .ok (.enter 63 args) w := enters_of Tryd.func63 (by kernel_rfl) rfl args w
set_option maxRecDepth 100000 in
set_option maxHeartbeats 1000000 in
theorem Tryd.indexFuncS (q : ByteArray → Bool) (lb : Addr) (zs : List ByteArray) (hz : zs.length ≤ 1000) (B : Nat) (w : World) (hB : B < w.heap.size) (hc : ∀ k (h : k < zs.length), w.cell? ⟨B, k, none⟩ = some (.string zs[k]))
    (hq : ∀ x ∈ zs, ∀ W, Below w.heap.size w W → Calls Tryd.prog 63 #[.string x, .pointer (some lb)] W fun e w' => e = .returned (.bool (q x)) ∧ Below W.heap.size W w') :
    Calls Tryd.prog 62 #[.slice (some ⟨B, 0, none⟩) zs.length zs.length, .func (.func 63) #[] #[.pointer (some lb)]] w fun e w' => e = .returned (.int .i64 (fx q zs 0)) ∧ Below w.heap.size w w' := by
  have eg := Tryd.cfNameK
  obtain ⟨r, hr⟩ : ∃ r, fx q zs 0 = r := ⟨_, rfl⟩
  rw [hr]
  have hHr := Lib.hid hr
  have hQ := Lib.hid hq
  have hCc := Lib.hid hc
  obtain ⟨n, hn⟩ : ∃ n, zs.length = n := ⟨_, rfl⟩
  rw [hn] at hz ⊢
  have hHn := Lib.hid hn
  clear hr hq hc hn
  go_enter Tryd.func62, Tryd.ntmps62
  go_wp2
  go_loopw [8] (fun s8 wr => ∃ k : Nat, k ≤ n ∧ s8 = .int .i64 k ∧ Hid (fx q (zs.drop k) k = r) ∧ Hid (Below w.heap.size w wr)) (fun s8 _ => n - (intOf s8).toNat)
  case atStart => exact ⟨0, Nat.zero_le _, rfl, hHr, Lib.hid (Below.refl _ _)⟩
  case round =>
    obtain ⟨k, hk, rfl, hpre, hBl⟩ := hrel
    have i0 : (0 : Int) ≤ k := by omega
    have i2 : (k : Int).toNat = k := by omega
    by_cases hlt : k < n
    · have i1 : (k : Int) < n := by omega
      have i3 : decide ((k : Int) < n) = true := by simp; omega
      obtain ⟨x, hx, hR, hm⟩ : ∃ x, Hid (zs.drop k = x :: zs.drop (k + 1)) ∧ wr.cell? ⟨B, k, none⟩ = some (.string x) ∧ x ∈ zs := by
        have kz : k < zs.length := by have := hHn.out; omega
        exact ⟨zs[k], Lib.hid (List.drop_eq_getElem_cons kz), cell_keep hBl.out (hCc.out k kz), List.getElem_mem kz⟩
      have hcl := Lib.hid (hQ.out x hm wr hBl.out)
      have hRb := Lib.hid hR
      have hnx := hpre.out
      rw [hx.out, fx] at hnx
      obtain ⟨bq, hbq⟩ : ∃ bq, q x = bq := ⟨_, rfl⟩
      rw [hbq] at hcl hnx
      clear hbq
      have w5 : IntKind.i64.wrap ((k : Int) + 1) = k + 1 := IntWalk.i64_in _ (by omega)
      cases bq
      · rw [if_neg (by decide)] at hnx
        have hHnx := Lib.hid hnx
        clear hnx hpre hm
        go_wp2_with (go_at_call 63; refine (hcl.out).mono ?_; rintro e W1 ⟨rfl, hb1⟩)
        go_roundw
        case rel => exact ⟨k + 1, by omega, by simp, hHnx, Lib.hid (hBl.out.trans (hb1.mono hBl.out.size))⟩
        case measure => simp [intOf]; omega
      · rw [if_pos rfl] at hnx
        have hHnx := Lib.hid hnx
        clear hnx hpre hm
        go_wp2_with (go_at_call 63; refine (hcl.out).mono ?_; rintro e W1 ⟨rfl, hb1⟩)
        go_ret
        exact ⟨by rw [← hHnx.out]; rfl, hBl.out.trans (hb1.mono hBl.out.size)⟩
    · obtain rfl : k = n := by omega
      have i3 : decide ((k : Int) < k) = false := by simp
      have hfin : Hid (r = -1) := Lib.hid (by
        have h := hpre.out
        rw [List.drop_eq_nil_of_le (by have := hHn.out; omega), fx] at h
        exact h.symm)
      go_wp2
      go_ret
      exact ⟨by rw [hfin.out]; rfl, hBl.out⟩
end Go.Proofs
