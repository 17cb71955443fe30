/- the calendar in plain Lean -/
namespace Cal
def lp (y : Int) : Bool := (decide (y % 4 = 0) && decide (y % 100 ≠ 0)) || decide (y % 400 = 0)
def yd (y : Int) : Int := if lp y = true then 366 else 365
def mdl (m : Int) : Int := [31, 28, 31, 30, 31, 30, 31, 31, 30, 31, 30, 31].getD (m - 1).toNat 0
def md (y m : Int) : Int := if m = 2 ∧ lp y = true then 29 else mdl m
def yrs : Nat → Int → Int → Int × Int
  | 0, y, d => (y, d)
  | f + 1, y, d => if d < yd y then (y, d) else yrs f (y + 1) (d - yd y)
def mos : Nat → Int → Int → Int → Int × Int
  | 0, _, m, d => (m, d)
  | f + 1, y, m, d => if d < md y m then (m, d) else mos f y (m + 1) (d - md y m)
def dby : Nat → Int
  | 0 => 0
  | k + 1 => dby k + yd (2000 + k)
def cum (y : Int) : Nat → Int
  | 0 => 0
  | k + 1 => cum y k + md y (1 + k)
theorem yd_pos (y : Int) : 365 ≤ yd y ∧ yd y ≤ 366 := by unfold yd; split <;> omega
theorem mdl_pos (m : Int) (h1 : 1 ≤ m) (h2 : m ≤ 12) : 28 ≤ mdl m ∧ mdl m ≤ 31 := by
  have : ∀ k : Fin 12, 28 ≤ mdl (1 + (k.1 : Int)) ∧ mdl (1 + (k.1 : Int)) ≤ 31 := by decide
  have h := this ⟨(m - 1).toNat, by omega⟩
  rwa [show (1 : Int) + ((m - 1).toNat : Nat) = m by omega] at h
theorem md_pos (y m : Int) (h1 : 1 ≤ m) (h2 : m ≤ 12) : 28 ≤ md y m ∧ md y m ≤ 31 := by
  unfold md
  split
  · omega
  · exact mdl_pos m h1 h2
theorem dby_mono {a b : Nat} (h : a ≤ b) : dby a ≤ dby b := by
  induction b with
  | zero => rw [show a = 0 by omega]; exact Int.le_refl _
  | succ b ih =>
    rcases Nat.lt_or_eq_of_le h with h1 | h1
    · have := ih (by omega)
      have := yd_pos (2000 + b)
      show dby a ≤ dby b + yd (2000 + b)
      omega
    · rw [h1]; exact Int.le_refl _
theorem dby_200 : dby 200 = 73049 := by decide +kernel
theorem cum_mono (y : Int) {a b : Nat} (hb : b ≤ 12) (h : a ≤ b) : cum y a ≤ cum y b := by
  induction b with
  | zero => rw [show a = 0 by omega]; exact Int.le_refl _
  | succ b ih =>
    rcases Nat.lt_or_eq_of_le h with h1 | h1
    · have := ih (by omega) (by omega)
      have := md_pos y (1 + b) (by omega) (by omega)
      show cum y a ≤ cum y b + md y (1 + b)
      omega
    · rw [h1]; exact Int.le_refl _
theorem cum_12 (y : Int) : cum y 12 = yd y := by
  have h2 : md y 2 = if lp y = true then 29 else 28 := by unfold md; by_cases h : lp y = true <;> simp [h, mdl]
  have ho : ∀ m : Int, m ≠ 2 → md y m = mdl m := fun m hm => by unfold md; rw [if_neg fun h => hm h.1]
  show 0 + md y (1 + (0 : Nat)) + md y (1 + (1 : Nat)) + md y (1 + (2 : Nat)) + md y (1 + (3 : Nat)) + md y (1 + (4 : Nat)) + md y (1 + (5 : Nat)) + md y (1 + (6 : Nat)) + md y (1 + (7 : Nat)) + md y (1 + (8 : Nat)) + md y (1 + (9 : Nat)) + md y (1 + (10 : Nat)) + md y (1 + (11 : Nat)) = yd y
  rw [show (1 : Int) + (1 : Nat) = 2 from rfl, h2, ho _ (by decide), ho _ (by decide), ho _ (by decide), ho _ (by decide), ho _ (by decide), ho _ (by decide), ho _ (by decide), ho _ (by decide), ho _ (by decide), ho _ (by decide), ho _ (by decide)]
  unfold yd
  split <;> decide
theorem yrs_at (D : Int) (k : Nat) (h1 : dby k ≤ D) (h2 : D < dby (k + 1)) : ∀ (f k0 : Nat), k0 ≤ k → k - k0 < f → yrs f (2000 + k0) (D - dby k0) = (2000 + (k : Int), D - dby k) := by
  intro f
  induction f with
  | zero => intro k0 h0 h; omega
  | succ f ih =>
    intro k0 h0 h
    have e : dby (k0 + 1) = dby k0 + yd (2000 + k0) := rfl
    unfold yrs
    by_cases hk : k0 = k
    · subst hk
      rw [if_pos (by omega)]
    · have hm := dby_mono (show k0 + 1 ≤ k by omega)
      rw [if_neg (by omega), show D - dby k0 - yd (2000 + k0) = D - dby (k0 + 1) by omega, show (2000 : Int) + k0 + 1 = 2000 + ((k0 + 1 : Nat) : Int) by omega]
      exact ih (k0 + 1) (by omega) (by omega)
theorem mos_at (y D : Int) (j : Nat) (hj : j < 12) (h1 : cum y j ≤ D) (h2 : D < cum y (j + 1)) : ∀ (f j0 : Nat), j0 ≤ j → j - j0 < f → mos f y (1 + j0) (D - cum y j0) = (1 + (j : Int), D - cum y j) := by
  intro f
  induction f with
  | zero => intro j0 h0 h; omega
  | succ f ih =>
    intro j0 h0 h
    have e : cum y (j0 + 1) = cum y j0 + md y (1 + j0) := rfl
    unfold mos
    by_cases hk : j0 = j
    · subst hk
      rw [if_pos (by omega)]
    · have hm := cum_mono y (show j ≤ 12 by omega) (show j0 + 1 ≤ j by omega)
      rw [if_neg (by omega), show D - cum y j0 - md y (1 + j0) = D - cum y (j0 + 1) by omega, show (1 : Int) + j0 + 1 = 1 + ((j0 + 1 : Nat) : Int) by omega]
      exact ih (j0 + 1) (by omega) (by omega)
def valid (t : Int) : Bool := decide (0 ≤ t ∧ t ≤ 105190559)
/-- the year, the month and the day of a day -/
def ymd (D : Int) : Int × Int × Int :=
  ((yrs 200 2000 D).1, (mos 12 (yrs 200 2000 D).1 1 (yrs 200 2000 D).2).1, (mos 12 (yrs 200 2000 D).1 1 (yrs 200 2000 D).2).2 + 1)
theorem ymd_at {D : Int} {k j : Nat} (hk : k < 200) (hj : j < 12) (h1 : dby k ≤ D) (h2 : D < dby (k + 1)) (h3 : cum (2000 + k) j ≤ D - dby k) (h4 : D - dby k < cum (2000 + k) (j + 1)) : ymd D = (2000 + (k : Int), 1 + (j : Int), D - dby k - cum (2000 + k) j + 1) := by
  have e1 := yrs_at D k h1 h2 200 0 (Nat.zero_le _) (by omega)
  rw [show (2000 : Int) + ((0 : Nat) : Int) = 2000 from rfl, show D - dby 0 = D from Int.sub_zero D] at e1
  have e2 := mos_at (2000 + k) (D - dby k) j hj h3 h4 12 0 (Nat.zero_le _) (by omega)
  rw [show (1 : Int) + ((0 : Nat) : Int) = 1 from rfl, show D - dby k - cum (2000 + k) 0 = D - dby k from Int.sub_zero _] at e2
  unfold ymd
  rw [e1, e2]
theorem ymd_ex {D : Int} (h0 : 0 ≤ D) (h1 : D < 73049) : ∃ k j : Nat, k < 200 ∧ j < 12 ∧ dby k ≤ D ∧ D < dby (k + 1) ∧ cum (2000 + k) j ≤ D - dby k ∧ D - dby k < cum (2000 + k) (j + 1) := by
  have find : ∀ (g : Nat → Int) (n : Nat) (x : Int), g 0 ≤ x → x < g n → ∃ k, k < n ∧ g k ≤ x ∧ x < g (k + 1) := by
    intro g n
    induction n with
    | zero => intro x h1 h2; omega
    | succ n ih =>
      intro x h1 h2
      by_cases h : x < g n
      · obtain ⟨k, hk, h3⟩ := ih x h1 h
        exact ⟨k, by omega, h3⟩
      · exact ⟨n, Nat.lt_succ_self _, by omega, h2⟩
  obtain ⟨k, hk, h2, h3⟩ := find dby 200 D h0 (by rw [dby_200]; exact h1)
  have hk1 : dby (k + 1) = dby k + yd (2000 + k) := rfl
  obtain ⟨j, hj, h4, h5⟩ := find (cum (2000 + k)) 12 (D - dby k) (by show (0 : Int) ≤ _; omega) (by rw [cum_12]; omega)
  exact ⟨k, j, hk, hj, h2, h3, h4, h5⟩
/-- the number of a day -/
def day (y m d : Int) : Int := d - 1 + dby (y - 2000).toNat + cum y (m - 1).toNat
theorem ymd_spec {D : Int} (h0 : 0 ≤ D) (h1 : D < 73049) : 2000 ≤ (ymd D).1 ∧ (ymd D).1 ≤ 2199 ∧ 1 ≤ (ymd D).2.1 ∧ (ymd D).2.1 ≤ 12 ∧ 1 ≤ (ymd D).2.2 ∧ (ymd D).2.2 ≤ md (ymd D).1 (ymd D).2.1 ∧ day (ymd D).1 (ymd D).2.1 (ymd D).2.2 = D := by
  obtain ⟨k, j, hk, hj, a, b, c, d⟩ := ymd_ex h0 h1
  rw [ymd_at hk hj a b c d]
  have e : cum (2000 + k) (j + 1) = cum (2000 + k) j + md (2000 + k) (1 + j) := rfl
  refine ⟨by dsimp only; omega, by dsimp only; omega, by dsimp only; omega, by dsimp only; omega, by dsimp only; omega, by dsimp only; omega, ?_⟩
  unfold day
  dsimp only
  rw [show ((2000 : Int) + (k : Int) - 2000).toNat = k by omega, show ((1 : Int) + (j : Int) - 1).toNat = j by omega]
  omega
/-- what FromCivil answers -/
def from_ (y m d h mi : Int) : Int × Int :=
  if y < 2000 ∨ 2199 < y ∨ m < 1 ∨ 12 < m then (0, 2)
  else if d < 1 ∨ md y m < d ∨ h < 0 ∨ 23 < h ∨ mi < 0 ∨ 59 < mi then (0, 13)
  else (day y m d * 1440 + h * 60 + mi, 0)
/-- what ToCivil answers -/
def civ (t : Int) : Int × Int × Int × Int × Int := ((ymd (t / 1440)).1, (ymd (t / 1440)).2.1, (ymd (t / 1440)).2.2, t % 1440 / 60, t % 60)
theorem valid_iff {t : Int} : valid t = true ↔ 0 ≤ t ∧ t ≤ 105190559 := by unfold valid; exact decide_eq_true_iff
theorem from_civ {t : Int} (h : valid t = true) : from_ (civ t).1 (civ t).2.1 (civ t).2.2.1 (civ t).2.2.2.1 (civ t).2.2.2.2 = (t, 0) := by
  obtain ⟨h0, h1⟩ := valid_iff.1 h
  obtain ⟨a1, a2, a3, a4, a5, a6, a7⟩ := ymd_spec (D := t / 1440) (by omega) (by omega)
  unfold from_ civ
  dsimp only
  rw [if_neg (by omega), if_neg (by omega), a7]
  congr 1
  omega
def wd (t : Int) : Int := (t / 1440 + 5) % 7
/-- a later day has a later date -/
theorem day_lt_year {y m d y' m' d' : Int} (h1 : 2000 ≤ y) (h2 : 1 ≤ m) (h3 : m ≤ 12) (h5 : d ≤ md y m) (k1 : y' ≤ 2199) (k2 : 1 ≤ m') (k3 : m' ≤ 12) (k4 : 1 ≤ d') (h : y < y') : day y m d < day y' m' d' := by
  unfold day
  have e1 : cum y ((m - 1).toNat + 1) = cum y (m - 1).toNat + md y m := by
    show cum y (m - 1).toNat + md y (1 + ((m - 1).toNat : Nat)) = _
    rw [show (1 : Int) + ((m - 1).toNat : Nat) = m by omega]
  have e2 := cum_mono y (show 12 ≤ 12 by omega) (show (m - 1).toNat + 1 ≤ 12 by omega)
  rw [cum_12] at e2
  have e3 : dby ((y - 2000).toNat + 1) = dby (y - 2000).toNat + yd y := by
    show dby (y - 2000).toNat + yd (2000 + ((y - 2000).toNat : Nat)) = _
    rw [show (2000 : Int) + ((y - 2000).toNat : Nat) = y by omega]
  have e4 := dby_mono (show (y - 2000).toNat + 1 ≤ (y' - 2000).toNat by omega)
  have e5 := cum_mono y' (show (m' - 1).toNat ≤ 12 by omega) (Nat.zero_le (m' - 1).toNat)
  have e6 : cum y' 0 = 0 := rfl
  omega
theorem day_lt_month {y m d m' d' : Int} (h2 : 1 ≤ m) (h5 : d ≤ md y m) (k3 : m' ≤ 12) (k4 : 1 ≤ d') (h : m < m') : day y m d < day y m' d' := by
  unfold day
  have e1 : cum y ((m - 1).toNat + 1) = cum y (m - 1).toNat + md y m := by
    show cum y (m - 1).toNat + md y (1 + ((m - 1).toNat : Nat)) = _
    rw [show (1 : Int) + ((m - 1).toNat : Nat) = m by omega]
  have e2 := cum_mono y (show (m' - 1).toNat ≤ 12 by omega) (show (m - 1).toNat + 1 ≤ (m' - 1).toNat by omega)
  omega
end Cal
