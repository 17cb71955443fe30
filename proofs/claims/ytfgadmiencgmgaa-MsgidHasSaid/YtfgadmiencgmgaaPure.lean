/- the text of an identity and its reading, in plain Lean: what is printed is read back -/
-- plain functions and laws for message identifiers; no program in sight
import Derived.Lib.Bytealg
namespace Go.Proofs.MsgPure
/-- the byte of a hexadecimal digit -/
def hd (n : Nat) : UInt8 := if n < 10 then UInt8.ofNat (48 + n) else UInt8.ofNat (87 + n)
/-- is this byte a digit; its value -/
def isD (c : UInt8) : Bool := (48 ≤ c.toNat && c.toNat ≤ 57) || (97 ≤ c.toNat && c.toNat ≤ 102)
def dv (c : UInt8) : Nat := if c.toNat ≤ 57 then c.toNat - 48 else c.toNat - 87
def hex (l : List UInt8) : List UInt8 := l.flatMap fun b => [hd (b.toNat / 16), hd (b.toNat % 16)]
def tail : List UInt8 := [64, 104, 97, 115, 104, 62]
def prn (l : List UInt8) : List UInt8 := 60 :: (hex l ++ tail)
/-- two digits to a byte -/
def unhex : List UInt8 → List UInt8
  | a :: b :: r => UInt8.ofNat (16 * dv a + dv b) :: unhex r
  | _ => []
/-- does byte i of a text fit? -/
def okAt (s : List UInt8) (i : Nat) : Bool :=
  if i = 0 then s.getD 0 0 == 60 else if i ≤ 64 then isD (s.getD i 0) else s.getD i 0 == tail.getD (i - 65) 0
/-- the first place from i on, of n places, that does not fit -/
def bad (s : List UInt8) : Nat → Nat → Option Nat
  | 0, _ => none
  | n + 1, i => if okAt s i then bad s n (i + 1) else some i
def zero : List UInt8 := List.replicate 32 0
structure Res where
  id : List UInt8
  at_ : Nat
  e : Nat
  deriving DecidableEq
def parse (s : List UInt8) : Res :=
  match bad s (min s.length 71) 0 with
  | some i => ⟨zero, i, 6⟩
  | none => if s.length < 71 then ⟨zero, s.length, 4⟩ else if 71 < s.length then ⟨zero, 71, 5⟩ else ⟨unhex ((s.drop 1).take 64), 0, 0⟩

theorem hd_lt (n : Nat) (h : n < 16) : isD (hd n) = true ∧ dv (hd n) = n := by
  have : ∀ n : Fin 16, isD (hd n.1) = true ∧ dv (hd n.1) = n.1 := by decide
  exact this ⟨n, h⟩
theorem hex_nil : hex [] = [] := rfl
theorem hex_cons (b : UInt8) (l : List UInt8) : hex (b :: l) = hd (b.toNat / 16) :: hd (b.toNat % 16) :: hex l := rfl
theorem hex_append (a b : List UInt8) : hex (a ++ b) = hex a ++ hex b := by simp [hex]
theorem hex_length (l : List UInt8) : (hex l).length = 2 * l.length := by
  induction l with
  | nil => rfl
  | cons b l ih => rw [hex_cons]; simp only [List.length_cons, ih]; omega
theorem unhex_hex (l : List UInt8) : unhex (hex l) = l := by
  induction l with
  | nil => rfl
  | cons b l ih =>
    rw [hex_cons, unhex, ih]
    have h1 := (hd_lt (b.toNat / 16) (by have := b.toNat_lt; omega)).2
    have h2 := (hd_lt (b.toNat % 16) (by omega)).2
    rw [h1, h2]
    congr 1
    rw [show 16 * (b.toNat / 16) + b.toNat % 16 = b.toNat by omega]
    simp
theorem hex_isD (l : List UInt8) : ∀ c ∈ hex l, isD c = true := by
  induction l with
  | nil => intro c h; cases h
  | cons b l ih =>
    intro c h
    rw [hex_cons] at h
    simp only [List.mem_cons] at h
    rcases h with rfl | rfl | h
    · exact (hd_lt _ (by have := b.toNat_lt; omega)).1
    · exact (hd_lt _ (by omega)).1
    · exact ih c h
theorem dv_lt (c : UInt8) (h : isD c = true) : dv c < 16 ∧ hd (dv c) = c := by
  have : ∀ c : Fin 256, isD (UInt8.ofNat c.1) = true → dv (UInt8.ofNat c.1) < 16 ∧ hd (dv (UInt8.ofNat c.1)) = UInt8.ofNat c.1 := by decide +kernel
  have := this ⟨c.toNat, c.toNat_lt⟩
  simp only [UInt8.ofNat_toNat] at this
  exact this h
theorem hex_unhex (n : Nat) : ∀ s : List UInt8, s.length = 2 * n → (∀ c ∈ s, isD c = true) → hex (unhex s) = s ∧ (unhex s).length = n := by
  induction n with
  | zero => intro s h _; obtain rfl := List.eq_nil_of_length_eq_zero (by omega : s.length = 0); exact ⟨rfl, rfl⟩
  | succ n ih =>
    intro s h hd'
    match s, h with
    | a :: b :: r, h =>
      have ha := dv_lt a (hd' a (by simp))
      have hb := dv_lt b (hd' b (by simp))
      have hr := ih r (by simp at h; omega) (fun c hc => hd' c (by simp [hc]))
      have e : (UInt8.ofNat (16 * dv a + dv b)).toNat = 16 * dv a + dv b := by
        rw [UInt8.toNat_ofNat']; omega
      refine ⟨?_, by rw [unhex, List.length_cons, hr.2]⟩
      rw [unhex, hex_cons, e, hr.1, show (16 * dv a + dv b) / 16 = dv a by omega, show (16 * dv a + dv b) % 16 = dv b by omega, ha.2, hb.2]
theorem unhex_length (n : Nat) : ∀ s : List UInt8, s.length = 2 * n → (unhex s).length = n := by
  induction n with
  | zero => intro s h; obtain rfl := List.eq_nil_of_length_eq_zero (by omega : s.length = 0); rfl
  | succ n ih =>
    intro s h
    match s, h with
    | a :: b :: r, h => rw [unhex, List.length_cons, ih r (by simp at h; omega)]

/-! the search for the first byte that does not fit -/
theorem bad_none {s : List UInt8} {n i : Nat} : bad s n i = none ↔ ∀ j, i ≤ j → j < i + n → okAt s j = true := by
  induction n generalizing i with
  | zero => simp [bad]; omega
  | succ n ih =>
    rw [bad]
    split
    · rename_i h
      rw [ih]
      constructor
      · intro hj j h1 h2
        rcases Nat.lt_or_eq_of_le h1 with h3 | h3
        · exact hj j h3 (by omega)
        · rw [← h3]; exact h
      · intro hj j h1 h2
        exact hj j (by omega) (by omega)
    · rename_i h
      constructor
      · intro h'; cases h'
      · intro hj; exact absurd (hj i (Nat.le_refl _) (by omega)) h
theorem bad_some {s : List UInt8} {n i k : Nat} : bad s n i = some k ↔ (i ≤ k ∧ k < i + n ∧ okAt s k = false ∧ ∀ j, i ≤ j → j < k → okAt s j = true) := by
  induction n generalizing i with
  | zero => simp [bad]; omega
  | succ n ih =>
    rw [bad]
    split
    · rename_i h
      rw [ih]
      constructor
      · rintro ⟨h1, h2, h3, h4⟩
        refine ⟨by omega, by omega, h3, fun j h5 h6 => ?_⟩
        rcases Nat.lt_or_eq_of_le h5 with h7 | h7
        · exact h4 j h7 h6
        · rw [← h7]; exact h
      · rintro ⟨h1, h2, h3, h4⟩
        have : i ≠ k := fun e => by rw [← e, h] at h3; cases h3
        exact ⟨by omega, by omega, h3, fun j h5 h6 => h4 j (by omega) h6⟩
    · rename_i h
      have h : okAt s i = false := by simpa using h
      constructor
      · intro e; injection e with e; subst e
        exact ⟨Nat.le_refl _, by omega, h, fun j h5 h6 => by omega⟩
      · rintro ⟨h1, h2, h3, h4⟩
        rcases Nat.lt_or_eq_of_le h1 with h5 | h5
        · rw [h4 i (Nat.le_refl _) h5] at h; cases h
        · rw [h5]
theorem parse_bad {s : List UInt8} {k : Nat} (hk : k < s.length) (hk2 : k < 71) (h : okAt s k = false) (h2 : ∀ j, j < k → okAt s j = true) : parse s = ⟨zero, k, 6⟩ := by
  have : bad s (min s.length 71) 0 = some k := bad_some.2 ⟨Nat.zero_le _, by omega, h, fun j _ hj => h2 j hj⟩
  rw [parse, this]
theorem parse_short {s : List UInt8} (hk : s.length < 71) (h2 : ∀ j, j < s.length → okAt s j = true) : parse s = ⟨zero, s.length, 4⟩ := by
  have : bad s (min s.length 71) 0 = none := bad_none.2 fun j _ hj => h2 j (by omega)
  rw [parse, this]; simp only []; rw [if_pos hk]
theorem parse_long {s : List UInt8} (hk : 71 < s.length) (h2 : ∀ j, j < 71 → okAt s j = true) : parse s = ⟨zero, 71, 5⟩ := by
  have : bad s (min s.length 71) 0 = none := bad_none.2 fun j _ hj => h2 j (by omega)
  rw [parse, this]; simp only []; rw [if_neg (by omega), if_pos hk]
theorem parse_ok {s : List UInt8} (hk : s.length = 71) (h2 : ∀ j, j < 71 → okAt s j = true) : parse s = ⟨unhex ((s.drop 1).take 64), 0, 0⟩ := by
  have : bad s (min s.length 71) 0 = none := bad_none.2 fun j _ hj => h2 j (by omega)
  rw [parse, this]; simp only []; rw [if_neg (by omega), if_neg (by omega)]
theorem parse_cases (s : List UInt8) : (∃ k, k < s.length ∧ k < 71 ∧ okAt s k = false ∧ (∀ j, j < k → okAt s j = true) ∧ parse s = ⟨zero, k, 6⟩) ∨
    (s.length < 71 ∧ (∀ j, j < s.length → okAt s j = true) ∧ parse s = ⟨zero, s.length, 4⟩) ∨ (71 < s.length ∧ (∀ j, j < 71 → okAt s j = true) ∧ parse s = ⟨zero, 71, 5⟩) ∨
    (s.length = 71 ∧ (∀ j, j < 71 → okAt s j = true) ∧ parse s = ⟨unhex ((s.drop 1).take 64), 0, 0⟩) := by
  cases h : bad s (min s.length 71) 0 with
  | some k =>
    obtain ⟨_, h2, h3, h4⟩ := bad_some.1 h
    exact .inl ⟨k, by omega, by omega, h3, fun j hj => h4 j (Nat.zero_le _) hj, parse_bad (by omega) (by omega) h3 (fun j hj => h4 j (Nat.zero_le _) hj)⟩
  | none =>
    have h := bad_none.1 h
    rcases Nat.lt_trichotomy s.length 71 with h1 | h1 | h1
    · have h2 : ∀ j, j < s.length → okAt s j = true := fun j hj => h j (Nat.zero_le _) (by omega)
      exact .inr (.inl ⟨h1, h2, parse_short h1 h2⟩)
    · have h2 : ∀ j, j < 71 → okAt s j = true := fun j hj => h j (Nat.zero_le _) (by omega)
      exact .inr (.inr (.inr ⟨h1, h2, parse_ok h1 h2⟩))
    · have h2 : ∀ j, j < 71 → okAt s j = true := fun j hj => h j (Nat.zero_le _) (by omega)
      exact .inr (.inr (.inl ⟨h1, h2, parse_long h1 h2⟩))
theorem parse_id_length (s : List UInt8) : (parse s).id.length = 32 := by
  rcases parse_cases s with ⟨_, _, _, _, _, h⟩ | ⟨_, _, h⟩ | ⟨_, _, h⟩ | ⟨h1, _, h⟩ <;> rw [h]
  · simp [zero]
  · simp [zero]
  · simp [zero]
  · exact unhex_length 32 _ (by simp [h1])

/-! the text of an identity -/
theorem prn_length {l : List UInt8} (h : l.length = 32) : (prn l).length = 71 := by simp [prn, hex_length, h, tail]
theorem prn_at {l : List UInt8} (h : l.length = 32) (i : Nat) : (prn l).getD i 0 = if i = 0 then 60 else if i ≤ 64 then (hex l).getD (i - 1) 0 else tail.getD (i - 65) 0 := by
  have hl : (hex l).length = 64 := by rw [hex_length, h]
  unfold prn
  rcases i with _ | i
  · rfl
  · rw [List.getD_cons_succ]
    simp only [List.getD_eq_getElem?_getD, List.getElem?_append, hl]
    by_cases h1 : i < 64
    · rw [if_pos h1, if_neg (by omega), if_pos (by omega)]; simp
    · rw [if_neg h1, if_neg (by omega), if_neg (by omega), show i + 1 - 65 = i - 64 by omega]
theorem okAt_prn {l : List UInt8} (h : l.length = 32) {i : Nat} (hi : i < 71) : okAt (prn l) i = true := by
  have hl : (hex l).length = 64 := by rw [hex_length, h]
  unfold okAt
  rw [prn_at h, prn_at h]
  by_cases h0 : i = 0
  · simp [h0]
  · by_cases h1 : i ≤ 64
    · rw [if_neg h0, if_pos h1, if_neg h0, if_pos h1]
      refine hex_isD l _ ?_
      rw [List.getD_eq_getElem?_getD, List.getElem?_eq_getElem (by omega)]
      exact List.getElem_mem _
    · simp [h0, h1]
theorem prn_mid {l : List UInt8} (h : l.length = 32) : ((prn l).drop 1).take 64 = hex l := by
  have hl : (hex l).length = 64 := by rw [hex_length, h]
  rw [prn, List.drop_succ_cons, List.drop_zero, ← hl, List.take_left]
theorem parse_prn {l : List UInt8} (h : l.length = 32) : parse (prn l) = ⟨l, 0, 0⟩ := by
  rw [parse_ok (prn_length h) (fun j hj => okAt_prn h hj), prn_mid h, unhex_hex]
theorem tail_of {s : List UInt8} (h1 : s.length = 71) (h2 : ∀ j, j < 71 → okAt s j = true) : s = 60 :: ((s.drop 1).take 64 ++ tail) := by
  apply List.ext_getElem?
  intro i
  have h64 : ((s.drop 1).take 64).length = 64 := by simp [h1]
  by_cases hi : i < 71
  · have hok := h2 i hi
    unfold okAt at hok
    rw [List.getElem?_eq_getElem (by omega)]
    have hg : s.getD i 0 = s[i]'(by omega) := by rw [List.getD_eq_getElem?_getD, List.getElem?_eq_getElem (by omega)]; rfl
    rcases i with _ | i
    · rw [if_pos rfl, hg] at hok; simp at hok ⊢; exact hok
    · rw [if_neg (by omega)] at hok
      rw [List.getElem?_cons_succ, List.getElem?_append, h64]
      by_cases h3 : i < 64
      · rw [if_pos h3, List.getElem?_take, if_pos h3, List.getElem?_drop, Nat.add_comm 1 i, List.getElem?_eq_getElem (by omega)]
      · rw [if_neg h3]
        rw [if_neg (by omega), hg] at hok
        simp only [beq_iff_eq] at hok
        rw [hok, show i + 1 - 65 = i - 64 by omega, List.getD_eq_getElem?_getD, List.getElem?_eq_getElem (by simp [tail]; omega)]
        rfl
  · rw [List.getElem?_eq_none (by omega), List.getElem?_eq_none (by simp [tail]; omega)]
/-- what is accepted is printed unchanged -/
theorem prn_parse {s : List UInt8} (h : (parse s).e = 0) : prn (parse s).id = s := by
  rcases parse_cases s with ⟨_, _, _, _, _, h'⟩ | ⟨_, _, h'⟩ | ⟨_, _, h'⟩ | ⟨h1, h2, h'⟩ <;> rw [h'] at h ⊢
  · cases h
  · cases h
  · cases h
  · have hh := hex_unhex 32 ((s.drop 1).take 64) (by simp [h1]) (fun c hc => by
      rw [List.mem_iff_getElem] at hc
      obtain ⟨i, hi, rfl⟩ := hc
      have hi' : i < 64 := by simp [h1] at hi; exact hi
      have hok := h2 (i + 1) (by omega)
      unfold okAt at hok
      rw [if_neg (by omega), if_pos (by omega), List.getD_eq_getElem?_getD, List.getElem?_eq_getElem (by omega)] at hok
      simp only [List.getElem_take, List.getElem_drop]
      have e : s[1 + i]'(by omega) = s[i + 1]'(by omega) := by congr 1; omega
      rw [e]; exact hok)
    show prn (unhex _) = s
    rw [prn, hh.1]
    exact (tail_of h1 h2).symm
end Go.Proofs.MsgPure
