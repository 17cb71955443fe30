/- the two packages' functions on sites' names, as print.sh prints them, agree; and what they answer for the two examples -/
import Derived.Test.YtfgadmiencgmgaaPMsgidSitesx
namespace Go.Proofs
open Go.RowKit Go.Proofs.Ytfgadmiencgmgaa.PMsgidSites Go.Proofs.YtfgadmiencgmgaaW.PrintWords
namespace Site
def prm (c : Int) : Bool := decide (97 ≤ c ∧ c ≤ 122 ∨ 48 ≤ c ∧ c ≤ 57 ∨ c = 45 ∨ c = 46)
def mis (s : ByteArray) (i : Int) : Bool :=
  if i = 0 then !decide (97 ≤ bt s i ∧ bt s i ≤ 122) else decide (bt s i = 46 ∧ bt s (i - 1) = 46 ∨ i = (s.size : Int) - 1 ∧ (bt s i = 45 ∨ bt s i = 46))
theorem permitted_f (c : Int) : msgid_permitted.f c = some (prm c) := by
  unfold msgid_permitted.f ascii_IsLower.f ascii_IsDigit.f prm
  by_cases h1 : 97 ≤ c <;> by_cases h2 : c ≤ 122 <;> by_cases h3 : 48 ≤ c <;> by_cases h4 : c ≤ 57 <;> by_cases h5 : c = 45 <;> by_cases h6 : c = 46 <;>
    simp [h1, h2, h3, h4, h5, h6] <;> omega
theorem wrap_dec {i : Int} (h0 : 0 ≤ i) (h : i ≤ 9223372036854775807) : wrap64 (i - 1) = i - 1 := by unfold wrap64; omega
theorem wrap_inc {i : Int} (h0 : 0 ≤ i) (h : i < 9223372036854775807) : wrap64 (i + 1) = i + 1 := by unfold wrap64; omega
theorem misplaced_f (s : ByteArray) (i : Int) (h0 : 0 ≤ i) (h1 : i < s.size) (hs : s.size ≤ 1000) : msgid_misplaced.f s i = some (mis s i) := by
  unfold msgid_misplaced.f ascii_IsLower.f mis
  rw [if_pos h0, if_pos h1, wrap_dec h0 (by omega), wrap_dec (show (0 : Int) ≤ s.size by omega) (by omega)]
  by_cases hz : i = 0
  · rw [if_pos hz, if_pos hz]
    by_cases ha : 97 ≤ bt s i <;> by_cases hb : bt s i ≤ 122 <;> simp [ha, hb]
  · rw [if_neg hz, if_neg hz, if_pos (by omega : 0 ≤ i - 1), if_pos (by omega : i - 1 < (s.size : Int))]
    by_cases ha : bt s i = 46 <;> by_cases hb : bt s (i - 1) = 46 <;> by_cases hc : i = (s.size : Int) - 1 <;> by_cases hd : bt s i = 45 <;> simp [ha, hb, hc, hd] <;> simp_all
theorem rl0 (s : ByteArray) (i : Int) (k : Nat) (h0 : 0 ≤ i) (h1 : i < s.size) (hs : s.size ≤ 1000) : bulletinref11_Site.l0 (k + 1) s i = if prm (bt s i) = true then bulletinref11_Site.l0 k s (i + 1) else some (i, 6) := by
  simp only [bulletinref11_Site.l0]
  rw [if_pos h1, if_pos h0, wrap_inc h0 (by omega)]
  generalize bulletinref11_Site.l0 k s (i + 1) = R
  generalize bt s i = c
  unfold prm
  by_cases h1 : 97 ≤ c <;> by_cases h2 : c ≤ 122 <;> by_cases h3 : 48 ≤ c <;> by_cases h4 : c ≤ 57 <;> by_cases h5 : c = 45 <;> by_cases h6 : c = 46 <;>
    simp [h1, h2, h3, h4, h5, h6] <;> omega
theorem rl1 (s : ByteArray) (i : Int) (k : Nat) (h0 : 0 ≤ i) (h1 : i < s.size) (hs : s.size ≤ 1000) : bulletinref11_Site.l1 (k + 1) s i = if mis s i = true then some (i, 12) else bulletinref11_Site.l1 k s (i + 1) := by
  simp only [bulletinref11_Site.l1]
  rw [if_pos h1, if_pos h0, wrap_inc h0 (by omega), wrap_dec h0 (by omega), wrap_dec (show (0 : Int) ≤ s.size by omega) (by omega)]
  generalize bulletinref11_Site.l1 k s (i + 1) = R
  unfold mis
  by_cases hz : i = 0
  · subst hz
    by_cases ha : 97 ≤ bt s 0
    · have h45 : ¬ bt s 0 = 45 := by omega
      have h46 : ¬ bt s 0 = 46 := by omega
      by_cases hb : bt s 0 ≤ 122
      · have hd : (!decide (97 ≤ bt s 0 ∧ bt s 0 ≤ 122)) = false := by simp [ha, hb]
        simp only [if_true, hd, Bool.false_eq_true, if_false]
        simp [ha, hb, h45, h46]
      · have hd : (!decide (97 ≤ bt s 0 ∧ bt s 0 ≤ 122)) = true := by simp [hb]
        simp only [if_true, hd]
        simp [ha, hb]
    · have hd : (!decide (97 ≤ bt s 0 ∧ bt s 0 ≤ 122)) = true := by simp [ha]
      simp only [if_true, hd]
      simp [ha]
  · have hn : i > 0 := by omega
    have h3 : 0 ≤ i - 1 := by omega
    have h4 : i - 1 < (s.size : Int) := by omega
    by_cases h1 : 97 ≤ bt s i <;> by_cases ha : bt s i = 46 <;> by_cases hb : bt s (i - 1) = 46 <;> by_cases hc : i = (s.size : Int) - 1 <;> by_cases hd : bt s i = 45 <;> simp [h1, ha, hb, hc, hd, hz, hn, h3, h4] <;> first | omega | (simp_all; done) | (simp_all; omega)
theorem l1_eq (s : ByteArray) (hs : s.size ≤ 1000) : ∀ (d k : Nat) (i : Int), 0 ≤ i → i + d = s.size → d < k → ∃ r1 r2 : Int, msgid_Site.l1 k s s.size i = some (r1, r2) ∧ bulletinref11_Site.l1 k s i = some (r1, r2) := by
  intro d
  induction d with
  | zero =>
    intro k i h0 hd hk
    obtain ⟨k, rfl⟩ : ∃ m, k = m + 1 := ⟨k - 1, by omega⟩
    refine ⟨0, 0, ?_, ?_⟩
    · simp only [msgid_Site.l1]; rw [if_neg (by omega)]
    · simp only [bulletinref11_Site.l1]; rw [if_neg (by omega)]
  | succ d ih =>
    intro k i h0 hd hk
    obtain ⟨k, rfl⟩ : ∃ m, k = m + 1 := ⟨k - 1, by omega⟩
    rw [rl1 s i k h0 (by omega) hs]
    simp only [msgid_Site.l1]
    rw [if_pos (by omega), misplaced_f s i h0 (by omega) hs, wrap_inc h0 (by omega)]
    simp only [Option.bind_some]
    by_cases h : mis s i = true
    · rw [if_pos h, if_pos h]; exact ⟨_, _, rfl, rfl⟩
    · rw [if_neg h, if_neg h]; exact ih k (i + 1) (by omega) (by omega) (by omega)
theorem l0_eq (s : ByteArray) (hs : s.size ≤ 1000) : ∀ (d k : Nat) (i : Int), 0 ≤ i → i + d = s.size → d + s.size + 1 < k → ∃ r1 r2 : Int, msgid_Site.l0 k s s.size i = some (r1, r2) ∧ bulletinref11_Site.l0 k s i = some (r1, r2) := by
  intro d
  induction d with
  | zero =>
    intro k i h0 hd hk
    obtain ⟨k, rfl⟩ : ∃ m, k = m + 1 := ⟨k - 1, by omega⟩
    simp only [msgid_Site.l0, bulletinref11_Site.l0]
    rw [if_neg (by omega), if_neg (by omega)]
    exact l1_eq s hs s.size k 0 (by omega) (by omega) (by omega)
  | succ d ih =>
    intro k i h0 hd hk
    obtain ⟨k, rfl⟩ : ∃ m, k = m + 1 := ⟨k - 1, by omega⟩
    rw [rl0 s i k h0 (by omega) hs]
    simp only [msgid_Site.l0]
    rw [if_pos (by omega), if_pos h0, if_pos (by omega), permitted_f, wrap_inc h0 (by omega)]
    simp only [Option.bind_some]
    by_cases h : prm (bt s i) = true
    · rw [if_pos h, if_pos h]; exact ih k (i + 1) (by omega) (by omega) (by omega)
    · rw [if_neg h, if_neg h]; exact ⟨_, _, rfl, rfl⟩
theorem site_eq (s : ByteArray) (hs : s.size ≤ 1000) : ∃ (k : Nat) (r1 r2 : Int), msgid_Site.f k s = some (r1, r2) ∧ bulletinref11_Site.f k s = some (r1, r2) := by
  unfold msgid_Site.f bulletinref11_Site.f
  refine ⟨2 * s.size + 2, ?_⟩
  by_cases h1 : s.toList = []
  · rw [if_pos h1]; exact ⟨_, _, rfl, by rw [if_pos h1]⟩
  · rw [if_neg h1, if_neg h1]
    by_cases h2 : (s.size : Int) > 30
    · rw [if_pos h2]; exact ⟨_, _, rfl, by rw [if_pos h2]⟩
    · rw [if_neg h2, if_neg h2]
      exact l0_eq s hs s.size _ 0 (by omega) (by omega) (by omega)
theorem ab : msgid_Site.f 10 ⟨#[97, 46, 46, 98]⟩ = some (2, 12) := by decide +kernel
theorem news : msgid_Site.f 40 ⟨#[110, 101, 119, 115, 46, 101, 120, 97, 109, 112, 108, 101, 45, 49]⟩ = some (0, 0) := by decide +kernel
end Site
end Go.Proofs
