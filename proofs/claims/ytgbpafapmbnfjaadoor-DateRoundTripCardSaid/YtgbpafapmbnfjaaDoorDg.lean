/- decimal digits: padded, Digits; the names; the tables that the library reads -/
import Derived.Test.YtgbpafapmbnfjaaDoorSL
import Derived.Test.YtgbpafapmbnfjaaDoorCiv
import Derived.Lib.AppendIntMem
import Derived.Lib.UnsafeStr
import Derived.Lib.SlBytesRow
namespace Go.Proofs
open Go.RowKit Go.Shelf Go.Lib
set_option linter.unusedVariables false
set_option linter.unusedSimpArgs false
open TK
namespace TK
/-- the tables of the library that these calls read -/
def Tabs (W : World) : Prop := Lib.TabIs Tryd.prog W "internal/strconv.uint64pow10" .u64 Lib.pow10Tab ∧ Lib.Utf8Tabs 3 4 W ∧ CaseVar 2 caseA W
theorem cell_lt {W : World} {p : Addr} {v : Value} (h : W.cell? p = some v) : p.block < W.heap.size := by
  unfold World.cell? at h
  split at h
  · rename_i hh
    exact (Array.getElem?_eq_some_iff.1 hh).1
  · cases h
theorem cell_keep {W W' : World} (hb : Below W.heap.size W W') {p : Addr} {v : Value} (h : W.cell? p = some v) : W'.cell? p = some v := (hb.cell (cell_lt h)).trans h
theorem tab_keep {P : Program} {W W' : World} (hb : Below W.heap.size W W') {name : String} {k : IntKind} {zs : List Int} (h : Lib.TabIs P W name k zs) : Lib.TabIs P W' name k zs := by
  unfold Lib.TabIs World.var? at *
  cases hg : P.globalNamed name with
  | none => rw [hg] at h; cases h
  | some g =>
    rw [hg] at h
    simp only [Option.bind_some] at h ⊢
    cases hh : W.heap[g]? with
    | none => rw [hh] at h; cases h
    | some o => rw [hb.block g (Array.getElem?_eq_some_iff.1 hh).1]; exact h
theorem Tabs.below {W W' : World} (hb : Below W.heap.size W W') (h : Tabs W) : Tabs W' := by
  obtain ⟨h1, h2, R, oR, cap, h3, h4⟩ := h
  refine ⟨tab_keep hb h1, ⟨fun c hc => cell_keep hb (h2.1 c hc), fun i hi => ⟨cell_keep hb (h2.2 i hi).1, cell_keep hb (h2.2 i hi).2⟩⟩, R, oR, cap, cell_keep hb h3, fun i hi => ?_⟩
  obtain ⟨a, b, c, d, e⟩ := h4 i hi
  exact ⟨cell_keep hb a, cell_keep hb b, cell_keep hb c, cell_keep hb d, cell_keep hb e⟩
/-- k digits of n -/
def dgs : Nat → Nat → List UInt8
  | 0, _ => []
  | k + 1, n => dgs k (n / 10) ++ [UInt8.ofNat (48 + n % 10)]
theorem dgs_length : ∀ k n, (dgs k n).length = k
  | 0, _ => rfl
  | k + 1, n => by rw [dgs, List.length_append, dgs_length k]; rfl
theorem dgs_zero : ∀ k, dgs k 0 = List.replicate k 48
  | 0 => rfl
  | k + 1 => by
    rw [dgs, Nat.zero_div, dgs_zero k, List.replicate_succ']
    rfl
theorem repl_one (c : UInt8) : ∀ k, Lib.repeatL [c] k = List.replicate k c
  | 0 => rfl
  | k + 1 => by rw [Lib.repeatL, repl_one c k, List.replicate_succ]; rfl
theorem dec_pad : ∀ (k n : Nat), 1 ≤ k → n < 10 ^ k → (Lib.decDigits n).length ≤ k ∧ Lib.repeatL [48] (k - (Lib.decDigits n).length) ++ Lib.decDigits n = dgs k n := by
  intro k
  induction k with
  | zero => intro n h; omega
  | succ k ih =>
    intro n _ h2
    by_cases h : n < 10
    · have e : Lib.decDigits n = [UInt8.ofNat (48 + n)] := by unfold Lib.decDigits; rw [dif_pos h]
      rw [e, repl_one, dgs, Nat.div_eq_of_lt h, dgs_zero, Nat.mod_eq_of_lt h]
      simp
    · have hk : 1 ≤ k := by
        rcases Nat.eq_zero_or_pos k with h0 | h0
        · subst h0; omega
        · exact h0
      have e : Lib.decDigits n = Lib.decDigits (n / 10) ++ [UInt8.ofNat (48 + n % 10)] := by conv => lhs; unfold Lib.decDigits; rw [dif_neg h]
      obtain ⟨h3, h4⟩ := ih (n / 10) hk (by rw [Nat.pow_succ] at h2; omega)
      rw [e, dgs, ← h4, List.length_append, List.length_singleton]
      refine ⟨by omega, ?_⟩
      rw [Nat.add_sub_add_right, List.append_assoc]
theorem str_app (a b : Array UInt8) : (⟨a⟩ : ByteArray) ++ ⟨b⟩ = ⟨a ++ b⟩ := by
  apply ByteArray.ext
  simp
end TK
set_option maxRecDepth 100000 in
set_option maxHeartbeats 1000000 in
theorem Tryd.padded (n : Int) (k : Nat) (h0 : 0 ≤ n) (hk : (k = 2 ∧ n ≤ 99) ∨ (k = 4 ∧ n ≤ 9999)) (w : World) (hT : Tabs w) :
    Calls Tryd.prog 35 #[.int .i64 n, .int .i64 k] w fun e w' => e = .returned (.string ⟨(dgs k n.toNat).toArray⟩) ∧ Below w.heap.size w w' := by
  have hit := Any.strconv_Itoa Tryd.laysM171 n (by omega) (by omega) w hT.1
  change Calls Tryd.prog 41 _ _ _ at hit
  obtain ⟨m, rfl⟩ := Int.eq_ofNat_of_zero_le h0
  rw [Int.toNat_natCast]
  obtain ⟨hl, hp⟩ := dec_pad k m (by omega) (by rcases hk with ⟨rfl, h⟩ | ⟨rfl, h⟩ <;> omega)
  have he : Lib.itoa (m : Int) = Lib.decDigits m := by unfold Lib.itoa; rw [if_neg (by omega), Int.toNat_natCast]
  rw [he] at hit
  generalize Lib.decDigits m = ds at hit hl hp
  have hrep := fun W => Any.strings_Repeat Tryd.lays105 Tryd.Builder_Extra_105 ⟨#[48]⟩ (k - ds.length) W (by omega) (by show 1 * _ ≤ _; omega)
  have hrep2 : ∀ W, Calls Tryd.prog 42 #[.string ⟨#[48]⟩, .int .i64 ((k - ds.length : Nat) : Int)] W fun e w' => e = .returned (.string ⟨(Lib.repeatL [48] (k - ds.length)).toArray⟩) ∧ Below W.heap.size W w' := hrep
  obtain ⟨S, hS⟩ : ∃ S : ByteArray, (⟨ds.toArray⟩ : ByteArray) = S := ⟨_, rfl⟩
  rw [hS] at hit
  have hSs : S.size = ds.length := by rw [← hS]; rfl
  obtain ⟨R, hR⟩ : ∃ R : ByteArray, (⟨(Lib.repeatL [48] (k - ds.length)).toArray⟩ : ByteArray) = R := ⟨_, rfl⟩
  have hfin : Hid (R ++ S = ⟨(dgs k m).toArray⟩) := Lib.hid (by rw [← hR, ← hS, str_app, ← hp]; simp)
  have hRs : R.size ≤ 10 := by
    have : R.size = (Lib.repeatL [48] (k - ds.length)).length := by rw [← hR]; rfl
    rw [this, repl_one, List.length_replicate]
    omega
  rw [hR] at hrep2
  have hHr := Lib.hid hrep2
  have hHi := Lib.hid hit
  have hmx : Hid (max 0 ((k : Int) - (S.size : Int)) = ((k - ds.length : Nat) : Int)) := Lib.hid (by omega)
  clear hrep hrep2 hit hS he hp hT h0 hR
  have hk9 : (k : Int) ≤ 10 := by omega
  have hk0 : (0 : Int) ≤ k := by omega
  have hs9 : S.size ≤ 10 := by omega
  have hRS : R.size + S.size ≤ 9223372036854775807 := by omega
  clear hSs hk
  generalize k - ds.length = c at hHr hfin hmx
  go_enter Tryd.func35, Tryd.ntmps35
  go_wp2_with fail
  refine hHi.out.mono ?_
  rintro e W1 ⟨rfl, q1, os, rfl⟩
  have hb1 := Lib.hid (Lib.below_grow w.heap.size w (Nat.le_refl _) q1 os)
  generalize Sort.grow (w.drewN q1) os = W1 at hb1 ⊢
  go_wp2_with fail
  try rw [hmx.out]
  refine (hHr.out _).mono ?_
  rintro e W2 ⟨rfl, hb2⟩
  have hB2 := Lib.hid (hb1.out.trans (hb2.mono hb1.out.size))
  clear hb1 hb2
  go_wp2
  go_ret
  exact ⟨by rw [← hfin.out]; rfl, hB2.out⟩
namespace TK
theorem dgs_cons : ∀ (i n : Nat), dgs (i + 1) n = UInt8.ofNat (48 + n / 10 ^ i % 10) :: dgs i n
  | 0, n => by simp [dgs]
  | i + 1, n => by
    rw [dgs, dgs_cons i (n / 10), Nat.div_div_eq_div_mul, ← Nat.pow_succ']
    rfl
end TK
set_option maxRecDepth 100000 in
set_option maxHeartbeats 1000000 in
theorem Tryd.qDigits (n : Int) (c : Nat) (h0 : 0 ≤ n) (h1 : n ≤ 99999) (hc : c ≤ 10) (w : World) :
    Calls Tryd.prog 32 #[.int .i64 n, .int .i64 c] w fun e w' => e = .returned (.string ⟨(dgs c n.toNat).toArray⟩) ∧ Below w.heap.size w w' := by
  obtain ⟨m, rfl⟩ := Int.eq_ofNat_of_zero_le h0
  rw [Int.toNat_natCast]
  go_enter Tryd.func32, Tryd.ntmps32
  go_wp2
  go_loopw [0, 5, 6] (fun s0 s5 s6 wr => ∃ i : Nat, i ≤ c ∧ s6 = .int .i64 i ∧ s0 = .int .i64 ((m / 10 ^ i : Nat) : Int) ∧ s5 = .string ⟨(dgs i m).toArray⟩ ∧ Hid (Below w.heap.size w wr)) (fun _ _ s6 _ => c - (intOf s6).toNat)
  case atStart => exact ⟨0, Nat.zero_le _, rfl, by simp, rfl, Lib.hid (Below.refl _ _)⟩
  case round =>
    obtain ⟨i, hi, rfl, rfl, rfl, hB⟩ := hrel
    have i0 : (0 : Int) ≤ i := by omega
    by_cases hlt : i < c
    · have i1 : (i : Int) < c := by omega
      have i3 : decide ((i : Int) < c) = true := by simp; omega
      have hpw : Hid (m / 10 ^ (i + 1) = m / 10 ^ i / 10) := Lib.hid (by rw [Nat.pow_succ, Nat.div_div_eq_div_mul])
      have hdc := Lib.hid (dgs_cons i m)
      have hm9 : m / 10 ^ i ≤ 99999 := Nat.le_trans (Nat.div_le_self _ _) (by omega)
      generalize m / 10 ^ i = r at hpw hdc hm9 ⊢
      have hdl : (dgs i m).length ≤ 10 := by rw [dgs_length]; omega
      generalize dgs i m = ds at hdc hdl ⊢
      have hbv : ((UInt8.ofNat (48 + r % 10)).toNat : Int) = 48 + (r : Int) % 10 := by rw [UInt8.toNat_ofNat']; omega
      generalize UInt8.ofNat (48 + r % 10) = b at hbv hdc
      have hHb := Lib.hid hbv
      clear hbv
      have hcv : ∀ w : World, (convert 67 9 (.slice (some ⟨w.heap.size, 0, none⟩) 1 1)).run Tryd.prog (w.alloc (.cells #[.int .u8 (48 + (r : Int) % 10)] 5)) = .ok (.string ⟨#[b]⟩) (w.alloc (.cells #[.int .u8 (48 + (r : Int) % 10)] 5)) := fun w =>
        Lib.run_convert_whole (P := Tryd.prog) _ 67 5 9 Tryd.underlying67 Tryd.underlying5 Tryd.underlying9 w.heap.size 0 ⟨#[b]⟩ (fun x hx => by
          have hx1 : x < 1 := hx
          obtain rfl : x = 0 := by omega
          rw [Go.cell_of_row _ _ _ _ _ _ (Go.heap_alloc_new w _)]
          show some _ = some (Value.int .u8 (b.toNat : Int))
          rw [hHb.out]
          rfl) 1
      have hl9 : ds.length ≤ 10 := hdl
      obtain ⟨S, hS⟩ : ∃ S : ByteArray, (⟨ds.toArray⟩ : ByteArray) = S := ⟨_, rfl⟩
      have hSs : S.size ≤ 10 := by rw [← hS]; exact hl9
      have hcat : Hid ((⟨#[b]⟩ : ByteArray) ++ S = ⟨(dgs (i + 1) m).toArray⟩) := Lib.hid (by rw [hdc.out, ← hS, str_app]; simp)
      rw [hS]
      clear hS hl9 hdl
      have hS1 : 1 + S.size ≤ 9223372036854775807 := by omega
      go_wp2
      go_roundw
      case rel => exact ⟨i + 1, by omega, by simp, by rw [hpw.out]; simp, by rw [← hcat.out], Lib.hid (hB.out.alloc hB.out.size _)⟩
      case measure => simp [intOf]; omega
    · obtain rfl : i = c := by omega
      have i3 : decide ((i : Int) < i) = false := by simp
      go_wp2
      go_ret
      exact ⟨rfl, hB.out⟩
end Go.Proofs
