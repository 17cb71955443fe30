/- parts of this proof in one text: Pure, Kit, Shelf, A, B, C, D, E -/
import Derived.Lib.Bytealg
import Derived.Laws.StructEq
import Derived.Laws.Rows
import Derived.Below
import Derived.Deep.Draws
import Derived.Deep.Quiet
import Derived.Lib.UnsafeStr
import Derived.WalkKit
import Derived.Deep.MidRow
import Derived.Deep.WholeRow
import Derived.Laws.Tables
import Derived.Maps.AppendAt
import Derived.OwnWalk
import Derived.Lib.Hide
import Derived.IntWalk
import Derived.KernelRfl
import Derived.Shelf.Strings.Builder1
import Derived.Shelf.Small.Strs
import Derived.Test.YtfgadmiencgmgaaDoorProg
import Derived.WalkSpells
import Derived.Deep.QuietTactic
import Derived.BigQuiet
import Derived.Lib.BytesEntry
import Derived.Laws.Externs
import Derived.Laws.CopyOwn
import Derived.Deep.AppendLies
/- the text of an identity and its reading, in plain Lean: what is printed is read back -/
-- plain functions and laws for message identifiers; no program in sight
namespace Go.Proofs.MsgPure
/-- the byte of a hexadecimal digit -/
def hd (n : Nat) : UInt8 := if n < 10 then UInt8.ofNat (48 + n) else UInt8.ofNat (87 + n)
/-- is this byte a digit; its value -/
def isD (c : UInt8) : Bool := (48 ≤ c.toNat && c.toNat ≤ 57) || (97 ≤ c.toNat && c.toNat ≤ 102)
def dv (c : UInt8) : Nat := if c.toNat ≤ 57 then c.toNat - 48 else c.toNat - 87
def hex (l : List UInt8) : List UInt8 := l.flatMap fun b => [hd (b.toNat / 16), hd (b.toNat % 16)]
def tail : List UInt8 := [64, 104, 97, 115, 104, 62]
def prn (l : List UInt8) : List UInt8 := 60 :: (hex l ++ tail)
/-- two digits to a byte -/
def unhex : List UInt8 → List UInt8
  | a :: b :: r => UInt8.ofNat (16 * dv a + dv b) :: unhex r
  | _ => []
/-- does byte i of a text fit? -/
def okAt (s : List UInt8) (i : Nat) : Bool :=
  if i = 0 then s.getD 0 0 == 60 else if i ≤ 64 then isD (s.getD i 0) else s.getD i 0 == tail.getD (i - 65) 0
/-- the first place from i on, of n places, that does not fit -/
def bad (s : List UInt8) : Nat → Nat → Option Nat
  | 0, _ => none
  | n + 1, i => if okAt s i then bad s n (i + 1) else some i
def zero : List UInt8 := List.replicate 32 0
structure Res where
  id : List UInt8
  at_ : Nat
  e : Nat
  deriving DecidableEq
def parse (s : List UInt8) : Res :=
  match bad s (min s.length 71) 0 with
  | some i => ⟨zero, i, 6⟩
  | none => if s.length < 71 then ⟨zero, s.length, 4⟩ else if 71 < s.length then ⟨zero, 71, 5⟩ else ⟨unhex ((s.drop 1).take 64), 0, 0⟩

theorem hd_lt (n : Nat) (h : n < 16) : isD (hd n) = true ∧ dv (hd n) = n := by
  have : ∀ n : Fin 16, isD (hd n.1) = true ∧ dv (hd n.1) = n.1 := by decide
  exact this ⟨n, h⟩
theorem hex_nil : hex [] = [] := rfl
theorem hex_cons (b : UInt8) (l : List UInt8) : hex (b :: l) = hd (b.toNat / 16) :: hd (b.toNat % 16) :: hex l := rfl
theorem hex_append (a b : List UInt8) : hex (a ++ b) = hex a ++ hex b := by simp [hex]
theorem hex_length (l : List UInt8) : (hex l).length = 2 * l.length := by
  induction l with
  | nil => rfl
  | cons b l ih => rw [hex_cons]; simp only [List.length_cons, ih]; omega
theorem unhex_hex (l : List UInt8) : unhex (hex l) = l := by
  induction l with
  | nil => rfl
  | cons b l ih =>
    rw [hex_cons, unhex, ih]
    have h1 := (hd_lt (b.toNat / 16) (by have := b.toNat_lt; omega)).2
    have h2 := (hd_lt (b.toNat % 16) (by omega)).2
    rw [h1, h2]
    congr 1
    rw [show 16 * (b.toNat / 16) + b.toNat % 16 = b.toNat by omega]
    simp
theorem hex_isD (l : List UInt8) : ∀ c ∈ hex l, isD c = true := by
  induction l with
  | nil => intro c h; cases h
  | cons b l ih =>
    intro c h
    rw [hex_cons] at h
    simp only [List.mem_cons] at h
    rcases h with rfl | rfl | h
    · exact (hd_lt _ (by have := b.toNat_lt; omega)).1
    · exact (hd_lt _ (by omega)).1
    · exact ih c h
theorem dv_lt (c : UInt8) (h : isD c = true) : dv c < 16 ∧ hd (dv c) = c := by
  have : ∀ c : Fin 256, isD (UInt8.ofNat c.1) = true → dv (UInt8.ofNat c.1) < 16 ∧ hd (dv (UInt8.ofNat c.1)) = UInt8.ofNat c.1 := by decide +kernel
  have := this ⟨c.toNat, c.toNat_lt⟩
  simp only [UInt8.ofNat_toNat] at this
  exact this h
theorem hex_unhex (n : Nat) : ∀ s : List UInt8, s.length = 2 * n → (∀ c ∈ s, isD c = true) → hex (unhex s) = s ∧ (unhex s).length = n := by
  induction n with
  | zero => intro s h _; obtain rfl := List.eq_nil_of_length_eq_zero (by omega : s.length = 0); exact ⟨rfl, rfl⟩
  | succ n ih =>
    intro s h hd'
    match s, h with
    | a :: b :: r, h =>
      have ha := dv_lt a (hd' a (by simp))
      have hb := dv_lt b (hd' b (by simp))
      have hr := ih r (by simp at h; omega) (fun c hc => hd' c (by simp [hc]))
      have e : (UInt8.ofNat (16 * dv a + dv b)).toNat = 16 * dv a + dv b := by
        rw [UInt8.toNat_ofNat']; omega
      refine ⟨?_, by rw [unhex, List.length_cons, hr.2]⟩
      rw [unhex, hex_cons, e, hr.1, show (16 * dv a + dv b) / 16 = dv a by omega, show (16 * dv a + dv b) % 16 = dv b by omega, ha.2, hb.2]
theorem unhex_length (n : Nat) : ∀ s : List UInt8, s.length = 2 * n → (unhex s).length = n := by
  induction n with
  | zero => intro s h; obtain rfl := List.eq_nil_of_length_eq_zero (by omega : s.length = 0); rfl
  | succ n ih =>
    intro s h
    match s, h with
    | a :: b :: r, h => rw [unhex, List.length_cons, ih r (by simp at h; omega)]

/-! the search for the first byte that does not fit -/
theorem bad_none {s : List UInt8} {n i : Nat} : bad s n i = none ↔ ∀ j, i ≤ j → j < i + n → okAt s j = true := by
  induction n generalizing i with
  | zero => simp [bad]; omega
  | succ n ih =>
    rw [bad]
    split
    · rename_i h
      rw [ih]
      constructor
      · intro hj j h1 h2
        rcases Nat.lt_or_eq_of_le h1 with h3 | h3
        · exact hj j h3 (by omega)
        · rw [← h3]; exact h
      · intro hj j h1 h2
        exact hj j (by omega) (by omega)
    · rename_i h
      constructor
      · intro h'; cases h'
      · intro hj; exact absurd (hj i (Nat.le_refl _) (by omega)) h
theorem bad_some {s : List UInt8} {n i k : Nat} : bad s n i = some k ↔ (i ≤ k ∧ k < i + n ∧ okAt s k = false ∧ ∀ j, i ≤ j → j < k → okAt s j = true) := by
  induction n generalizing i with
  | zero => simp [bad]; omega
  | succ n ih =>
    rw [bad]
    split
    · rename_i h
      rw [ih]
      constructor
      · rintro ⟨h1, h2, h3, h4⟩
        refine ⟨by omega, by omega, h3, fun j h5 h6 => ?_⟩
        rcases Nat.lt_or_eq_of_le h5 with h7 | h7
        · exact h4 j h7 h6
        · rw [← h7]; exact h
      · rintro ⟨h1, h2, h3, h4⟩
        have : i ≠ k := fun e => by rw [← e, h] at h3; cases h3
        exact ⟨by omega, by omega, h3, fun j h5 h6 => h4 j (by omega) h6⟩
    · rename_i h
      have h : okAt s i = false := by simpa using h
      constructor
      · intro e; injection e with e; subst e
        exact ⟨Nat.le_refl _, by omega, h, fun j h5 h6 => by omega⟩
      · rintro ⟨h1, h2, h3, h4⟩
        rcases Nat.lt_or_eq_of_le h1 with h5 | h5
        · rw [h4 i (Nat.le_refl _) h5] at h; cases h
        · rw [h5]
theorem parse_bad {s : List UInt8} {k : Nat} (hk : k < s.length) (hk2 : k < 71) (h : okAt s k = false) (h2 : ∀ j, j < k → okAt s j = true) : parse s = ⟨zero, k, 6⟩ := by
  have : bad s (min s.length 71) 0 = some k := bad_some.2 ⟨Nat.zero_le _, by omega, h, fun j _ hj => h2 j hj⟩
  rw [parse, this]
theorem parse_short {s : List UInt8} (hk : s.length < 71) (h2 : ∀ j, j < s.length → okAt s j = true) : parse s = ⟨zero, s.length, 4⟩ := by
  have : bad s (min s.length 71) 0 = none := bad_none.2 fun j _ hj => h2 j (by omega)
  rw [parse, this]; simp only []; rw [if_pos hk]
theorem parse_long {s : List UInt8} (hk : 71 < s.length) (h2 : ∀ j, j < 71 → okAt s j = true) : parse s = ⟨zero, 71, 5⟩ := by
  have : bad s (min s.length 71) 0 = none := bad_none.2 fun j _ hj => h2 j (by omega)
  rw [parse, this]; simp only []; rw [if_neg (by omega), if_pos hk]
theorem parse_ok {s : List UInt8} (hk : s.length = 71) (h2 : ∀ j, j < 71 → okAt s j = true) : parse s = ⟨unhex ((s.drop 1).take 64), 0, 0⟩ := by
  have : bad s (min s.length 71) 0 = none := bad_none.2 fun j _ hj => h2 j (by omega)
  rw [parse, this]; simp only []; rw [if_neg (by omega), if_neg (by omega)]
theorem parse_cases (s : List UInt8) : (∃ k, k < s.length ∧ k < 71 ∧ okAt s k = false ∧ (∀ j, j < k → okAt s j = true) ∧ parse s = ⟨zero, k, 6⟩) ∨
    (s.length < 71 ∧ (∀ j, j < s.length → okAt s j = true) ∧ parse s = ⟨zero, s.length, 4⟩) ∨ (71 < s.length ∧ (∀ j, j < 71 → okAt s j = true) ∧ parse s = ⟨zero, 71, 5⟩) ∨
    (s.length = 71 ∧ (∀ j, j < 71 → okAt s j = true) ∧ parse s = ⟨unhex ((s.drop 1).take 64), 0, 0⟩) := by
  cases h : bad s (min s.length 71) 0 with
  | some k =>
    obtain ⟨_, h2, h3, h4⟩ := bad_some.1 h
    exact .inl ⟨k, by omega, by omega, h3, fun j hj => h4 j (Nat.zero_le _) hj, parse_bad (by omega) (by omega) h3 (fun j hj => h4 j (Nat.zero_le _) hj)⟩
  | none =>
    have h := bad_none.1 h
    rcases Nat.lt_trichotomy s.length 71 with h1 | h1 | h1
    · have h2 : ∀ j, j < s.length → okAt s j = true := fun j hj => h j (Nat.zero_le _) (by omega)
      exact .inr (.inl ⟨h1, h2, parse_short h1 h2⟩)
    · have h2 : ∀ j, j < 71 → okAt s j = true := fun j hj => h j (Nat.zero_le _) (by omega)
      exact .inr (.inr (.inr ⟨h1, h2, parse_ok h1 h2⟩))
    · have h2 : ∀ j, j < 71 → okAt s j = true := fun j hj => h j (Nat.zero_le _) (by omega)
      exact .inr (.inr (.inl ⟨h1, h2, parse_long h1 h2⟩))
theorem parse_id_length (s : List UInt8) : (parse s).id.length = 32 := by
  rcases parse_cases s with ⟨_, _, _, _, _, h⟩ | ⟨_, _, h⟩ | ⟨_, _, h⟩ | ⟨h1, _, h⟩ <;> rw [h]
  · simp [zero]
  · simp [zero]
  · simp [zero]
  · exact unhex_length 32 _ (by simp [h1])

/-! the text of an identity -/
theorem prn_length {l : List UInt8} (h : l.length = 32) : (prn l).length = 71 := by simp [prn, hex_length, h, tail]
theorem prn_at {l : List UInt8} (h : l.length = 32) (i : Nat) : (prn l).getD i 0 = if i = 0 then 60 else if i ≤ 64 then (hex l).getD (i - 1) 0 else tail.getD (i - 65) 0 := by
  have hl : (hex l).length = 64 := by rw [hex_length, h]
  unfold prn
  rcases i with _ | i
  · rfl
  · rw [List.getD_cons_succ]
    simp only [List.getD_eq_getElem?_getD, List.getElem?_append, hl]
    by_cases h1 : i < 64
    · rw [if_pos h1, if_neg (by omega), if_pos (by omega)]; simp
    · rw [if_neg h1, if_neg (by omega), if_neg (by omega), show i + 1 - 65 = i - 64 by omega]
theorem okAt_prn {l : List UInt8} (h : l.length = 32) {i : Nat} (hi : i < 71) : okAt (prn l) i = true := by
  have hl : (hex l).length = 64 := by rw [hex_length, h]
  unfold okAt
  rw [prn_at h, prn_at h]
  by_cases h0 : i = 0
  · simp [h0]
  · by_cases h1 : i ≤ 64
    · rw [if_neg h0, if_pos h1, if_neg h0, if_pos h1]
      refine hex_isD l _ ?_
      rw [List.getD_eq_getElem?_getD, List.getElem?_eq_getElem (by omega)]
      exact List.getElem_mem _
    · simp [h0, h1]
theorem prn_mid {l : List UInt8} (h : l.length = 32) : ((prn l).drop 1).take 64 = hex l := by
  have hl : (hex l).length = 64 := by rw [hex_length, h]
  rw [prn, List.drop_succ_cons, List.drop_zero, ← hl, List.take_left]
theorem parse_prn {l : List UInt8} (h : l.length = 32) : parse (prn l) = ⟨l, 0, 0⟩ := by
  rw [parse_ok (prn_length h) (fun j hj => okAt_prn h hj), prn_mid h, unhex_hex]
theorem tail_of {s : List UInt8} (h1 : s.length = 71) (h2 : ∀ j, j < 71 → okAt s j = true) : s = 60 :: ((s.drop 1).take 64 ++ tail) := by
  apply List.ext_getElem?
  intro i
  have h64 : ((s.drop 1).take 64).length = 64 := by simp [h1]
  by_cases hi : i < 71
  · have hok := h2 i hi
    unfold okAt at hok
    rw [List.getElem?_eq_getElem (by omega)]
    have hg : s.getD i 0 = s[i]'(by omega) := by rw [List.getD_eq_getElem?_getD, List.getElem?_eq_getElem (by omega)]; rfl
    rcases i with _ | i
    · rw [if_pos rfl, hg] at hok; simp at hok ⊢; exact hok
    · rw [if_neg (by omega)] at hok
      rw [List.getElem?_cons_succ, List.getElem?_append, h64]
      by_cases h3 : i < 64
      · rw [if_pos h3, List.getElem?_take, if_pos h3, List.getElem?_drop, Nat.add_comm 1 i, List.getElem?_eq_getElem (by omega)]
      · rw [if_neg h3]
        rw [if_neg (by omega), hg] at hok
        simp only [beq_iff_eq] at hok
        rw [hok, show i + 1 - 65 = i - 64 by omega, List.getD_eq_getElem?_getD, List.getElem?_eq_getElem (by simp [tail]; omega)]
        rfl
  · rw [List.getElem?_eq_none (by omega), List.getElem?_eq_none (by simp [tail]; omega)]
/-- what is accepted is printed unchanged -/
theorem prn_parse {s : List UInt8} (h : (parse s).e = 0) : prn (parse s).id = s := by
  rcases parse_cases s with ⟨_, _, _, _, _, h'⟩ | ⟨_, _, h'⟩ | ⟨_, _, h'⟩ | ⟨h1, h2, h'⟩ <;> rw [h'] at h ⊢
  · cases h
  · cases h
  · cases h
  · have hh := hex_unhex 32 ((s.drop 1).take 64) (by simp [h1]) (fun c hc => by
      rw [List.mem_iff_getElem] at hc
      obtain ⟨i, hi, rfl⟩ := hc
      have hi' : i < 64 := by simp [h1] at hi; exact hi
      have hok := h2 (i + 1) (by omega)
      unfold okAt at hok
      rw [if_neg (by omega), if_pos (by omega), List.getD_eq_getElem?_getD, List.getElem?_eq_getElem (by omega)] at hok
      simp only [List.getElem_take, List.getElem_drop]
      have e : s[1 + i]'(by omega) = s[i + 1]'(by omega) := by congr 1; omega
      rw [e]; exact hok)
    show prn (unhex _) = s
    rw [prn, hh.1]
    exact (tail_of h1 h2).symm
end Go.Proofs.MsgPure

/- steps of the program at arrays of 32 bytes: built, loaded, stored, compared, appended -/
namespace Go.Proofs.XK
open Go.RowKit
abbrev bv (l : List UInt8) : List Value := Lib.byteCells l
theorem bv_length (l : List UInt8) : (bv l).length = l.length := by simp [bv, Lib.byteCells]
theorem bv_get (l : List UInt8) (i : Nat) (h : i < l.length) : (bv l)[i]? = some (.int .u8 (l.getD i 0).toNat) := by
  simp [bv, Lib.byteCells, List.getElem?_eq_getElem h, List.getD_eq_getElem?_getD]
section
variable {P : Program} (w : World)
theorem run_part_byte (e : TypeId) (hs : (P.info? e).map (·.size) = some 1) (hu : P.underlying e = some (.int .u8)) (l : List UInt8) (i : Nat) (h : i < l.length) :
    (part e (bv l).toArray i).run P w = .ok (.int .u8 (l.getD i 0).toNat) w := by
  cases hq : P.info? e with
  | none => simp [hq] at hs
  | some j =>
    have hg := bv_get l i h
    simp only [part, isAgg, Sem.run_bind, run_underlying hu, Result.andThen_ok, Sem.run_pure]
    simp only [List.getElem?_toArray, hg]
    rfl
theorem run_equalIn_bytes (d : Nat) (t e n : Nat) (ht : P.underlying t = some (.array n e)) (he : P.underlying e = some (.int .u8)) (hs : (P.info? e).map (·.size) = some 1) (l m : List UInt8) (hl : l.length = n) (hm : m.length = n) :
    (Op.equalIn (d + 2) t (.agg (bv l).toArray) (.agg (bv m).toArray)).run P w = .ok (l == m) w := by
  cases hq : P.info? e with
  | none => simp [hq] at hs
  | some j =>
    have hs' : j.size = 1 := by simpa [hq] using hs
    have key : ∀ k i, i + k = n → (∀ x, x < i → l.getD x 0 = m.getD x 0) → Sem.run P
          (forIn (List.range' i k) (none, ()) fun i (_ : Option Bool × Unit) => do
            let a ← part e (bv l).toArray i
            let b ← part e (bv m).toArray i
            let r ← Op.equalIn (d + 1) e a b
            if r = false then pure (ForInStep.done (some false, ())) else pure (ForInStep.yield (none, ()))) w = .ok (if l == m then (none, ()) else (some false, ())) w := by
      intro k
      induction k with
      | zero =>
        intro i hi hx
        have : l = m := List.ext_getElem? fun x => by
          rcases Nat.lt_or_ge x n with h | h
          · have := hx x (by omega)
            simp only [List.getD_eq_getElem?_getD] at this
            rw [List.getElem?_eq_getElem (by omega), List.getElem?_eq_getElem (by omega)] at this ⊢
            simpa using this
          · rw [List.getElem?_eq_none (by omega), List.getElem?_eq_none (by omega)]
        simp [this]
      | succ k ih =>
        intro i hi hx
        rw [List.range'_succ, List.forIn_cons]
        simp only [Sem.run_bind, run_part_byte w e hs he l i (by omega), run_part_byte w e hs he m i (by omega), Result.andThen_ok, run_equalIn_int w d e .u8 .u8 _ _ he]
        by_cases h : l.getD i 0 = m.getD i 0
        · rw [h]
          simp only [BEq.rfl, Bool.true_eq_false, if_false, Sem.run_pure, Result.andThen_ok]
          exact ih (i + 1) (by omega) fun x hx' => by
            rcases Nat.lt_or_eq_of_le (Nat.lt_succ_iff.1 hx') with h' | h'
            · exact hx x h'
            · rw [h']; exact h
        · have h1 : (((l.getD i 0).toNat : Int) == ((m.getD i 0).toNat : Int)) = false := by
            rw [beq_eq_false_iff_ne]; intro e; exact h (UInt8.toNat_inj.1 (by omega))
          have h2 : (l == m) = false := by
            rw [beq_eq_false_iff_ne]; intro e; exact h (by rw [e])
          rw [h1, h2]
          simp
    have hk := key n 0 (by omega) (fun x hx => by omega)
    rw [Op.equalIn]
    simp only [Sem.run_bind, run_underlying ht, Result.andThen_ok, sizeOf, typeInfo, run_program, hq]
    simp [hs', hk]
    by_cases h : l = m <;> simp [h]
/-- '==' of two arrays of bytes, the guard ahead of it too -/
theorem run_eql_bytes (t e n : Nat) (x y : Operand) (ht : P.underlying t = some (.array n e)) (he : P.underlying e = some (.int .u8)) (hs : (P.info? e).map (·.size) = some 1) (hg : P.eqGuardType P.depth t = false) (l m : List UInt8) (hl : l.length = n) (hm : m.length = n) :
    (do eqGuard .eql t x y (.agg (bv l).toArray) (.agg (bv m).toArray); binOp .eql t (.agg (bv l).toArray) (.agg (bv m).toArray)).run P w = .ok (.bool (l == m)) w := by
  rw [Sem.run_bind, run_eqGuard_agg w .eql t x y _ _ hg, Result.andThen_ok]
  simp only [binOp, Op.equal, Op.maxDepth, Sem.run_bind, run_equalIn_bytes w 9998 t e n ht he hs l m hl hm, Result.andThen_ok, Sem.run_pure]
theorem run_neq_bytes (t e n : Nat) (x y : Operand) (ht : P.underlying t = some (.array n e)) (he : P.underlying e = some (.int .u8)) (hs : (P.info? e).map (·.size) = some 1) (hg : P.eqGuardType P.depth t = false) (l m : List UInt8) (hl : l.length = n) (hm : m.length = n) :
    (do eqGuard .neq t x y (.agg (bv l).toArray) (.agg (bv m).toArray); binOp .neq t (.agg (bv l).toArray) (.agg (bv m).toArray)).run P w = .ok (.bool (!(l == m))) w := by
  rw [Sem.run_bind, run_eqGuard_agg w .neq t x y _ _ hg, Result.andThen_ok]
  simp only [binOp, Op.equal, Op.maxDepth, Sem.run_bind, run_equalIn_bytes w 9998 t e n ht he hs l m hl hm, Result.andThen_ok, Sem.run_pure]
end

/-! ### steps at arrays of 32 bytes -/
def z32 : List UInt8 := List.replicate 32 0
/-- type T is an array of 32 bytes (of type e) -/
structure Arr (P : Program) (T e : TypeId) : Prop where
  ut : P.underlying T = some (.array 32 e)
  ue : P.underlying e = some (.int .u8)
  se : (P.info? e).map (·.size) = some 1
  st : (P.info? T).map (·.size) = some 32
  zt : (P.info? T).map (·.zero) = some (some (.agg (bv z32).toArray))
  gt : P.eqGuardType P.depth T = false
theorem bv_one (l : List UInt8) : ∀ v ∈ bv l, v.oneCell' = true := by
  intro v hv
  simp only [bv, Lib.byteCells, List.mem_map] at hv
  obtain ⟨b, _, rfl⟩ := hv
  rfl
theorem zeroValue_of {P : Program} {T : TypeId} {v : Value} (h : (P.info? T).map (·.zero) = some (some v)) (w : World) : (zeroValue T).run P w = .ok v w := by
  cases hq : P.info? T with
  | none => simp [hq] at h
  | some i =>
    have : i.zero = some v := by simpa [hq] using h
    simp [zeroValue, typeInfo, hq, this]
section
variable {P : Program} {T e : TypeId} {ops : Array Oper} {rest : List Oper} {o : Oper} {a : Act} {w : World} {Q : Exit → Act → World → Prop}
theorem wpList_want (hw : Region.wanted o (yielded ops a.tmps) = true) (h : o.wp P a w (wpList P ops Q rest) Q) : wpList P ops Q (o :: rest) a w := by
  unfold wpList
  rw [if_pos hw]
  exact .inl h
/-- an operation that gives a value -/
theorem x_val {v : Value} {w' : World} (hw : Region.wanted o (yielded ops a.tmps) = true) (hr : (execOp a.eval o).run P w = .ok (.value v) w') (h : wpList P ops Q rest (a.put o.dst v) w') : wpList P ops Q (o :: rest) a w :=
  wpList_want hw (by unfold Oper.wp; rw [hr]; exact h)
theorem x_skip {w' : World} (hw : Region.wanted o (yielded ops a.tmps) = true) (hr : (execOp a.eval o).run P w = .ok .skip w') (h : wpList P ops Q rest (a.put o.dst undef) w') : wpList P ops Q (o :: rest) a w :=
  wpList_want hw (by unfold Oper.wp; rw [hr]; exact h)
/-- the whole array out of memory -/
theorem x_ld (A : Arr P T e) (hw : Region.wanted o (yielded ops a.tmps) = true) (x : Operand) (ho : o.op = .load T x) (b f : Nat) (hx : a.eval x = .pointer (some ⟨b, f, none⟩)) (l : List UInt8) (hl : l.length = 32) (hc : w.rangeAt b f (bv l))
    (h : wpList P ops Q rest (a.put o.dst (.agg (bv l).toArray)) w) : wpList P ops Q (o :: rest) a w := by
  refine x_val hw ?_ h
  unfold execOp
  simp only [ho, hx, Sem.run_bind, Sem.run_pure, run_loadAt_mid w b f T (bv l) _ hc A.ut rfl (by rw [A.st, bv_length, hl]), Result.andThen_ok]
/-- the whole array into memory -/
theorem x_st (A : Arr P T e) (hw : Region.wanted o (yielded ops a.tmps) = true) (x y : Operand) (ho : o.op = .store T x y) (b f : Nat) (hx : a.eval x = .pointer (some ⟨b, f, none⟩)) (l : List UInt8) (hy : a.eval y = .agg (bv l).toArray) (hl : l.length = 32)
    (hc : w.there b f 32) (h : wpList P ops Q rest (a.put o.dst undef) (w.setCells b f (bv l))) : wpList P ops Q (o :: rest) a w := by
  refine x_skip hw ?_ h
  unfold execOp
  simp only [ho, hx, hy, Sem.run_bind, Sem.run_pure, run_storeAt_mid w b f T (bv l).toArray (by simpa [bv_length, hl] using hc) (by rw [A.st]; simp [bv_length, hl]) (all_oneCell_toArray (bv_one l)), Result.andThen_ok]
/-- the whole array into a block that is all this array -/
theorem x_st0 (A : Arr P T e) (hw : Region.wanted o (yielded ops a.tmps) = true) (x y : Operand) (ho : o.op = .store T x y) (b : Nat) (hx : a.eval x = .pointer (some ⟨b, 0, none⟩)) (l : List UInt8) (hy : a.eval y = .agg (bv l).toArray) (hl : l.length = 32)
    (cs : Array Value) (t : TypeId) (hc : w.heap[b]? = some (.cells cs t (0, 0))) (hs : cs.size = 32) (h : wpList P ops Q rest (a.put o.dst undef) (w.setRow b (bv l).toArray)) : wpList P ops Q (o :: rest) a w := by
  refine x_skip hw ?_ h
  unfold execOp
  simp only [ho, hx, hy, Instr.storeAt, Instr.sureAddr, Sem.run_bind, Sem.run_pure, Result.andThen_ok, run_storeVar_row w b t T cs (bv l).toArray hc (by rw [A.st]; simp [bv_length, hl]) (by simp [bv_length, hl, hs]) (all_oneCell_toArray (bv_one l))]
/-- .. that was made last -/
theorem x_stn {W : World} (A : Arr P T e) (hw : Region.wanted o (yielded ops a.tmps) = true) (x y : Operand) (ho : o.op = .store T x y) (hx : a.eval x = .pointer (some ⟨W.heap.size, 0, none⟩)) (l : List UInt8) (hy : a.eval y = .agg (bv l).toArray) (hl : l.length = 32)
    (cs : Array Value) (t : TypeId) (hs : cs.size = 32) (h : wpList P ops Q rest (a.put o.dst undef) (W.alloc (.cells (bv l).toArray t))) : wpList P ops Q (o :: rest) a (W.alloc (.cells cs t)) :=
  x_st0 A hw x y ho W.heap.size hx l hy hl cs t (Go.heap_alloc_new W _) hs (by rw [World.setRow_alloc_new]; exact h)
theorem x_eq (A : Arr P T e) (hw : Region.wanted o (yielded ops a.tmps) = true) (x y : Operand) (r : TypeId) (ho : o.op = .binOp .eql T x y r) (l m : List UInt8) (hx : a.eval x = .agg (bv l).toArray) (hy : a.eval y = .agg (bv m).toArray) (hl : l.length = 32) (hm : m.length = 32)
    (h : wpList P ops Q rest (a.put o.dst (.bool (l == m))) w) : wpList P ops Q (o :: rest) a w := by
  refine x_val hw ?_ h
  have := run_eql_bytes (P := P) w T e 32 x y A.ut A.ue A.se A.gt l m hl hm
  unfold execOp
  simp only [ho, hx, hy]
  rw [Sem.run_bind, this]
  rfl
theorem x_eqt (A : Arr P T e) (hw : Region.wanted o (yielded ops a.tmps) = true) (x y : Operand) (r : TypeId) (ho : o.op = .binOp .eql T x y r) (l m : List UInt8) (hx : a.eval x = .agg (bv l).toArray) (hy : a.eval y = .agg (bv m).toArray) (hl : l.length = 32) (hm : m.length = 32) (b : Bool) (he : (l == m) = b)
    (h : wpList P ops Q rest (a.put o.dst (.bool b)) w) : wpList P ops Q (o :: rest) a w :=
  x_eq A hw x y r ho l m hx hy hl hm (by rw [he]; exact h)
theorem x_ne (A : Arr P T e) (hw : Region.wanted o (yielded ops a.tmps) = true) (x y : Operand) (r : TypeId) (ho : o.op = .binOp .neq T x y r) (l m : List UInt8) (hx : a.eval x = .agg (bv l).toArray) (hy : a.eval y = .agg (bv m).toArray) (hl : l.length = 32) (hm : m.length = 32)
    (h : wpList P ops Q rest (a.put o.dst (.bool (!(l == m)))) w) : wpList P ops Q (o :: rest) a w := by
  refine x_val hw ?_ h
  have := run_neq_bytes (P := P) w T e 32 x y A.ut A.ue A.se A.gt l m hl hm
  unfold execOp
  simp only [ho, hx, hy]
  rw [Sem.run_bind, this]
  rfl
/-- the zero array -/
theorem x_bz (A : Arr P T e) (hw : Region.wanted o (yielded ops a.tmps) = true) (ho : o.op = .build T #[])
    (h : wpList P ops Q rest (a.put o.dst (.agg (bv z32).toArray)) w) : wpList P ops Q (o :: rest) a w := by
  refine x_val hw ?_ h
  unfold execOp
  simp only [ho, Instr.build, Sem.run_bind, zeroValue_of A.zt, Result.andThen_ok, run_underlying A.ut, sizeOf, typeInfo, run_program]
  have h2 := A.se
  cases hq : P.info? e with
  | none => simp [hq] at h2
  | some i => simp [Instr.fill, Value.cells]
/-- an array with one element given -/
theorem x_bp (A : Arr P T e) (hw : Region.wanted o (yielded ops a.tmps) = true) (i : Nat) (x : Operand) (ho : o.op = .build T #[(i, x)]) (c : UInt8) (hx : a.eval x = .int .u8 c.toNat) (hi : i < 32)
    (h : wpList P ops Q rest (a.put o.dst (.agg (bv (z32.set i c)).toArray)) w) : wpList P ops Q (o :: rest) a w := by
  refine x_val hw ?_ h
  unfold execOp
  simp only [ho, Instr.build, Sem.run_bind, zeroValue_of A.zt, Result.andThen_ok, run_underlying A.ut, sizeOf, typeInfo, run_program]
  have h2 := A.se
  cases hq : P.info? e with
  | none => simp [hq] at h2
  | some j =>
    have hj : j.size = 1 := by simpa [hq] using h2
    have hs : (bv z32).toArray.setIfInBounds i (.int .u8 c.toNat) = (bv (z32.set i c)).toArray := by
      simp [bv, Lib.byteCells, List.map_set]
    have hz : (bv z32).length = 32 := rfl
    simp only [List.map_toArray, List.map_cons, List.map_nil, hx, Instr.fill, Value.cells]
    simp [hz, hj]
    rw [if_neg (by omega)]
    have hs' : ((bv z32).set i (.int .u8 c.toNat)).toArray = (bv (z32.set i c)).toArray := by simpa using hs
    rw [hs']
    rfl
/-- a new variable -/
theorem x_al (A : Arr P T e) (hw : Region.wanted o (yielded ops a.tmps) = true) (ho : o.op = .alloc T)
    (h : wpList P ops Q rest (a.put o.dst (.pointer (some ⟨w.heap.size, 0, none⟩))) (w.alloc (.cells (bv z32).toArray T))) : wpList P ops Q (o :: rest) a w := by
  refine x_val hw ?_ h
  unfold execOp
  simp [ho, Instr.alloc, zeroValue_of A.zt, newVar, Value.cells, newRow, newObj]
  rfl
theorem x_bx (hw : Region.wanted o (yielded ops a.tmps) = true) (x : Operand) (ho : o.op = .box T x) (cs : Array Value) (hx : a.eval x = .agg cs)
    (h : wpList P ops Q rest (a.put o.dst (.pointer (some ⟨w.heap.size, 0, none⟩))) (w.alloc (.cells cs T))) : wpList P ops Q (o :: rest) a w := by
  refine x_val hw ?_ h
  unfold execOp
  simp [ho, hx, Instr.box, newVar, Value.cells, newRow, newObj]
  rfl
theorem one_of {v : Value} (h : v.oneCell' = true) : ∀ u ∈ [v], u.oneCell' = true := fun u hu => by
  rw [List.mem_singleton] at hu; subst hu; exact h
theorem own_slice {w : World} {base n : Nat} {e : TypeId} {size : Nat} {v : Value} {xs : List Value} (h : w.ownsRow base e size v n xs) : ∃ A c, v = .slice A n c := by
  rcases h.2 with ⟨rfl, rfl⟩ | ⟨g, cap, cur, rfl, _⟩
  · exact ⟨none, 0, rfl⟩
  · exact ⟨_, cap, rfl⟩
/-- append of a literal's elements, which lie in the block that was made last, to a row of the call's own -/
theorem x_app {W : World} (hgd : o.guard = none) (s x : Operand) (t : TypeId) (ho : o.op = .call { callee := .builtin .append, args := #[s, x], argTypes := #[t, t] })
    (base : Nat) (el : TypeId) (z : Value) (size bytes : Nat) (ht : P.underlying t = some (.slice el)) (hinfo : (P.info? el).map (fun i => (i.zero, i.size, i.bytes)) = some (some z, size, bytes)) (hzs : z.cells.size = size) (hsz : 0 < size)
    (v : Value) (n : Nat) (xs : List Value) (hs : a.eval s = v) (hown : W.ownsRow base el size v n xs) (m : Nat) (news : List Value) (cs : Array Value) (hcs : cs = news.toArray) (hx : a.eval x = .slice (some ⟨W.heap.size, 0, none⟩) m m) (hl : news.length = m * size)
    (h1 : ∀ u ∈ news, u.oneCell' = true) (hbytes : (n + m) * bytes ≤ 140737488355328) (hb0 : 0 < bytes) (hbase : base ≤ W.heap.size)
    (h : ∀ v' w', w'.ownsRow base el size v' (n + m) (xs ++ news) → W.grownBy w' v.ownBlock → (v' = .slice none 0 0 ↔ v = .slice none 0 0 ∧ m = 0) → (v'.ownBlock = v.ownBlock ∨ ∃ b, v'.ownBlock = some b ∧ W.heap.size ≤ b) → wpList P ops Q rest (a.put o.dst v') w') :
    wpList P ops Q (o :: rest) a (W.alloc (.cells cs el)) := by
  obtain ⟨i0, hi, hz0, hz1, hz2⟩ := info_parts hinfo
  subst hcs
  have hnm : n + m ≤ 140737488355328 := Nat.le_trans (Nat.le_mul_of_pos_right _ hb0) hbytes
  refine wpList_append_own_at (W.alloc (.cells news.toArray el)) hgd s x t ho base el i0 z size bytes ht hi hz0 hz1 hz2 hzs hsz v n xs hs (hown.alloc _) ⟨W.heap.size, 0, none⟩ m m news hx hl (fun j u hj => ?_) h1 (by simp only [maxLen]; omega) hbytes (by simp; omega) ?_
  · have e : (⟨W.heap.size, 0, none⟩ : Addr).add j = ⟨W.heap.size, j, none⟩ := by unfold Addr.add; split <;> simp_all
    rw [e, Go.cell_of_row _ _ _ _ _ _ (Go.heap_alloc_new W _)]
    simpa using hj
  · intro v' w' hown' hg hnil hat
    refine h v' w' hown' (World.grownBy.trans (World.grownBy_alloc W _ _) hg) hnil ?_
    rcases hat with hat | hat
    · exact .inl hat
    · exact .inr ⟨_, hat, by simp⟩
end
end Go.Proofs.XK

/- the library's contracts that these proofs use, laid at this translation -/
namespace Go.Proofs
open Go.Shelf
def Tryd.lays240_ren : Go.Shelf.Ren := ⟨fun | 240 => 65 | 276 => 80 | n => n, fun | 0 => 0 | 4 => 4 | 9 => 9 | 20 => 20 | 37 => 68 | 70 => 81 | 72 => 83 | 164 => 113 | n => n, fun | n => n⟩
theorem Tryd.lays240 : Go.Proofs.Lays.n240 Tryd.prog Tryd.lays240_ren := {
  mixed := by kernel_rfl
  f240 := Tryd.func65.trans (congrArg some (by kernel_rfl))
  f276 := Tryd.func80.trans (congrArg some (by kernel_rfl))
  t0 := Tryd.underlying0
  a0 := Tryd.isAgg0
  z0 := Tryd.sizeOf0
  v0 := Tryd.zeroValue0
  t4 := Tryd.underlying4
  a4 := Tryd.isAgg4
  z4 := Tryd.sizeOf4
  v4 := Tryd.zeroValue4
  t9 := Tryd.underlying9
  a9 := Tryd.isAgg9
  z9 := Tryd.sizeOf9
  v9 := Tryd.zeroValue9
  t20 := Tryd.underlying20
  a20 := Tryd.isAgg20
  z20 := Tryd.sizeOf20
  v20 := Tryd.zeroValue20
  t70 := Tryd.underlying81
  a70 := Tryd.isAgg81
  z70 := Tryd.sizeOf81
  v70 := Tryd.zeroValue81
  t72 := Tryd.underlying83
  a72 := Tryd.isAgg83
  z72 := Tryd.sizeOf83
  v72 := Tryd.zeroValue83
  t164 := Tryd.underlying113
  a164 := Tryd.isAgg113
  z164 := Tryd.sizeOf113
  v164 := Tryd.zeroValue113 }
theorem Tryd.Builder_X72_240 : Builder.X72 Tryd.prog Tryd.lays240_ren := { sizeBuilder := by kernel_rfl, liesBuilder := by kernel_rfl }
def Tryd.lays167_ren : Go.Shelf.Ren := ⟨fun | 167 => 52 | 240 => 65 | 276 => 80 | n => n, fun | 0 => 0 | 4 => 4 | 5 => 5 | 9 => 9 | 20 => 20 | 37 => 68 | 70 => 81 | 72 => 83 | 75 => 85 | 80 => 88 | 164 => 113 | n => n, fun | n => n⟩
theorem Tryd.lays167 : Go.Proofs.Lays.n167 Tryd.prog Tryd.lays167_ren := {
  mixed := by kernel_rfl
  f167 := Tryd.func52.trans (congrArg some (by kernel_rfl))
  f240 := Tryd.func65.trans (congrArg some (by kernel_rfl))
  f276 := Tryd.func80.trans (congrArg some (by kernel_rfl))
  t0 := Tryd.underlying0
  a0 := Tryd.isAgg0
  z0 := Tryd.sizeOf0
  v0 := Tryd.zeroValue0
  t4 := Tryd.underlying4
  a4 := Tryd.isAgg4
  z4 := Tryd.sizeOf4
  v4 := Tryd.zeroValue4
  t5 := Tryd.underlying5
  a5 := Tryd.isAgg5
  z5 := Tryd.sizeOf5
  v5 := Tryd.zeroValue5
  t9 := Tryd.underlying9
  a9 := Tryd.isAgg9
  z9 := Tryd.sizeOf9
  v9 := Tryd.zeroValue9
  t20 := Tryd.underlying20
  a20 := Tryd.isAgg20
  z20 := Tryd.sizeOf20
  v20 := Tryd.zeroValue20
  t37 := Tryd.underlying68
  a37 := Tryd.isAgg68
  z37 := Tryd.sizeOf68
  v37 := Tryd.zeroValue68
  t70 := Tryd.underlying81
  a70 := Tryd.isAgg81
  z70 := Tryd.sizeOf81
  v70 := Tryd.zeroValue81
  t72 := Tryd.underlying83
  a72 := Tryd.isAgg83
  z72 := Tryd.sizeOf83
  v72 := Tryd.zeroValue83
  t75 := Tryd.underlying85
  a75 := Tryd.isAgg85
  z75 := Tryd.sizeOf85
  v75 := Tryd.zeroValue85
  t164 := Tryd.underlying113
  a164 := Tryd.isAgg113
  z164 := Tryd.sizeOf113
  v164 := Tryd.zeroValue113 }
theorem Tryd.Builder_Extra_167 : Builder.Extra Tryd.prog Tryd.lays167_ren := {
  sizeBuilder := by kernel_rfl
  liesBuilder := by kernel_rfl
  t5 := Tryd.underlying5
  a5 := Tryd.isAgg5
  z5 := Tryd.sizeOf5
  v5 := Tryd.zeroValue5
  infoByte := by kernel_rfl
  cellsByte := by kernel_rfl
  sizeByte := by kernel_rfl
  neB5 := by decide }
def Tryd.lays169_ren : Go.Shelf.Ren := ⟨fun | 169 => 53 | n => n, fun | 0 => 0 | 3 => 3 | 5 => 5 | 9 => 9 | 37 => 68 | 70 => 81 | 72 => 83 | 127 => 93 | n => n, fun | n => n⟩
theorem Tryd.lays169 : Go.Proofs.Lays.n169 Tryd.prog Tryd.lays169_ren := {
  mixed := by kernel_rfl
  f169 := Tryd.func53.trans (congrArg some (by kernel_rfl))
  t0 := Tryd.underlying0
  a0 := Tryd.isAgg0
  z0 := Tryd.sizeOf0
  v0 := Tryd.zeroValue0
  t3 := Tryd.underlying3
  a3 := Tryd.isAgg3
  z3 := Tryd.sizeOf3
  v3 := Tryd.zeroValue3
  t9 := Tryd.underlying9
  a9 := Tryd.isAgg9
  z9 := Tryd.sizeOf9
  v9 := Tryd.zeroValue9
  t37 := Tryd.underlying68
  a37 := Tryd.isAgg68
  z37 := Tryd.sizeOf68
  v37 := Tryd.zeroValue68
  t70 := Tryd.underlying81
  a70 := Tryd.isAgg81
  z70 := Tryd.sizeOf81
  v70 := Tryd.zeroValue81
  t72 := Tryd.underlying83
  a72 := Tryd.isAgg83
  z72 := Tryd.sizeOf83
  v72 := Tryd.zeroValue83
  t127 := Tryd.underlying93
  a127 := Tryd.isAgg93
  z127 := Tryd.sizeOf93
  v127 := Tryd.zeroValue93 }
theorem Tryd.Builder_Extra_169 : Builder.Extra Tryd.prog Tryd.lays169_ren := {
  sizeBuilder := by kernel_rfl
  liesBuilder := by kernel_rfl
  t5 := Tryd.underlying5
  a5 := Tryd.isAgg5
  z5 := Tryd.sizeOf5
  v5 := Tryd.zeroValue5
  infoByte := by kernel_rfl
  cellsByte := by kernel_rfl
  sizeByte := by kernel_rfl
  neB5 := by decide }
def Tryd.lays137_ren : Go.Shelf.Ren := ⟨fun | 137 => 39 | 217 => 54 | 266 => 66 | n => n, fun | 3 => 3 | 5 => 5 | 9 => 9 | n => n, fun | n => n⟩
theorem Tryd.lays137 : Go.Proofs.Lays.n137 Tryd.prog Tryd.lays137_ren := {
  mixed := by kernel_rfl
  f137 := Tryd.func39.trans (congrArg some (by kernel_rfl))
  f217 := Tryd.func54.trans (congrArg some (by kernel_rfl))
  f266 := Tryd.func66.trans (congrArg some (by kernel_rfl))
  t3 := Tryd.underlying3
  a3 := Tryd.isAgg3
  z3 := Tryd.sizeOf3
  v3 := Tryd.zeroValue3
  t5 := Tryd.underlying5
  a5 := Tryd.isAgg5
  z5 := Tryd.sizeOf5
  v5 := Tryd.zeroValue5
  t9 := Tryd.underlying9
  a9 := Tryd.isAgg9
  z9 := Tryd.sizeOf9
  v9 := Tryd.zeroValue9 }
section
open Go.RowKit
/-- (*strings.Builder).WriteByte -/
theorem Tryd.writeByte (B b : Nat) (bs : List Value) (c : Int) (w : World) (h : Lib.IsBuilder 83 5 B b bs w) (hlen : bs.length + 1 ≤ 140737488355328) (hBw : B ≤ w.heap.size) :
    Calls Tryd.prog 52 #[.pointer (some ⟨b, 0, none⟩), .int .u8 c] w fun e w' => e = .returned .nilIface ∧ (Lib.BuilderAt 83 5 B b (.pointer (some ⟨b, 0, none⟩)) (bs ++ [.int .u8 c]) w' ∧ Below B w w') :=
  Any.Builder_WriteByte Tryd.lays167 Tryd.Builder_Extra_167 B b bs c w h hlen hBw
/-- (*strings.Builder).String -/
theorem Tryd.builderString (B b : Nat) (l : List UInt8) (w : World) (h : Lib.IsBuilder 83 5 B b (Lib.byteCells l) w) (hBw : B ≤ w.heap.size) :
    Calls Tryd.prog 53 #[.pointer (some ⟨b, 0, none⟩)] w fun e w' => e = .returned (.string ⟨l.toArray⟩) ∧ Below B w w' :=
  Any.Builder_String_any Tryd.lays169 Tryd.Builder_Extra_169 B b l w h hBw
/-- strings.IndexByte -/
theorem Tryd.indexByte (s : ByteArray) (c : Int) (w : World) :
    Calls Tryd.prog 39 #[.string s, .int .u8 c] w fun e w' => e = .returned (.int .i64 (Lib.indexByte s.data.toList c.toNat.toUInt8)) ∧ w' = w :=
  Any.strings_IndexByte Tryd.lays137 s c w
end
end Go.Proofs

/- contracts of the functions of package ascii and msgid that print an identity or compare identities, and of the reference's -/
namespace Go.Proofs
open Go.RowKit XK
theorem XK.hexAt (n : Nat) (h : n < 16) (h' : n < (⟨#[48, 49, 50, 51, 52, 53, 54, 55, 56, 57, 97, 98, 99, 100, 101, 102]⟩ : ByteArray).size) :
    (⟨#[48, 49, 50, 51, 52, 53, 54, 55, 56, 57, 97, 98, 99, 100, 101, 102]⟩ : ByteArray)[n]'h' = MsgPure.hd n := by
  have : ∀ n : Fin 16, ∀ h' : n.1 < (⟨#[48, 49, 50, 51, 52, 53, 54, 55, 56, 57, 97, 98, 99, 100, 101, 102]⟩ : ByteArray).size, (⟨#[48, 49, 50, 51, 52, 53, 54, 55, 56, 57, 97, 98, 99, 100, 101, 102]⟩ : ByteArray)[n.1]'h' = MsgPure.hd n.1 := by decide
  exact this ⟨n, h⟩ h'
theorem XK.hex_take (l : List UInt8) (k : Nat) (h : k < l.length) : bv (MsgPure.hex (l.take (k + 1))) = bv (MsgPure.hex (l.take k)) ++ [.int .u8 (MsgPure.hd ((l.getD k 0).toNat / 16)).toNat] ++ [.int .u8 (MsgPure.hd ((l.getD k 0).toNat % 16)).toNat] := by
  rw [List.take_succ_eq_append_getElem h, MsgPure.hex_append, MsgPure.hex_cons, MsgPure.hex_nil, List.getD_eq_getElem?_getD, List.getElem?_eq_getElem h]
  simp [bv, Lib.byteCells]
theorem XK.bv_hex_len (l : List UInt8) (k n : Nat) (h : k ≤ l.length) (hn : l.length ≤ n) : (bv (MsgPure.hex (l.take k))).length ≤ 2 * n := by
  rw [bv_length, MsgPure.hex_length, List.length_take]; omega
theorem Tryd.arrId : Arr Tryd.prog 24 5 := ⟨Tryd.underlying24, Tryd.underlying5, by kernel_rfl, by kernel_rfl, by kernel_rfl, Tryd.eqGuardType24⟩
theorem Tryd.arrRId : Arr Tryd.prog 28 5 := ⟨Tryd.underlying28, Tryd.underlying5, by kernel_rfl, by kernel_rfl, by kernel_rfl, Tryd.eqGuardType28⟩
theorem XK.str_app (a b : Array UInt8) : (⟨a⟩ : ByteArray) ++ ⟨b⟩ = ⟨a ++ b⟩ := by
  apply ByteArray.ext
  simp
/-- ascii.Hex at bytes that lie in memory -/
theorem Tryd.hex (l : List UInt8) (g f c : Nat) (w : World) (hn : l.length ≤ 1000) (hg : g < w.heap.size) (hc : ∀ j, j < l.length → w.cell? ⟨g, f + j, none⟩ = some (.int .u8 (l.getD j 0).toNat)) :
    Calls Tryd.prog 38 #[.slice (some ⟨g, f, none⟩) l.length c] w fun e w' => e = .returned (.string ⟨(MsgPure.hex l).toArray⟩) ∧ Below w.heap.size w w' := by
  go_enter Tryd.func38, Tryd.ntmps38
  go_wp2
  go_loopw [8] (fun i wr => ∃ k : Nat, k ≤ l.length ∧ i = .int .i64 k ∧ Lib.IsBuilder 83 5 w.heap.size w.heap.size (bv (MsgPure.hex (l.take k))) wr ∧ Below w.heap.size w wr ∧ w.heap.size < wr.heap.size) (fun i _ => l.length - (intOf i).toNat)
  case atStart =>
    refine ⟨0, Nat.zero_le _, rfl, ?_, (Below.refl _ _).alloc (Nat.le_refl _) _, by simp⟩
    exact Lib.fresh_isBuilder 83 5 w
  case round =>
    obtain ⟨k, hk, rfl, hB, hb, hz⟩ := hrel
    have hlen := XK.bv_hex_len l k 1000 hk hn
    by_cases hlt : k < l.length
    · have hcell : wr.cell? ⟨g, f + k, none⟩ = some (.int .u8 (l.getD k 0).toNat) := (hb.cell (p := ⟨g, f + k, none⟩) hg).trans (hc k hlt)
      have htk := Lib.hid (XK.hex_take l k hlt)
      generalize l.getD k 0 = x at hcell htk
      have hx := x.toNat_lt
      clear hc
      go_wp2_with fail
      refine (Tryd.writeByte _ _ _ _ _ hB (by omega) (by omega)).mono ?_
      rintro e w1 ⟨rfl, hB1, hb1⟩
      rw [XK.hexAt _ (by omega)] at hB1
      have hz1 := hb1.size
      go_wp2_with fail
      refine (Tryd.writeByte _ _ _ _ _ (.inr hB1) (by simp; omega) (by omega)).mono ?_
      rintro e w2 ⟨rfl, hB2, hb2⟩
      rw [XK.hexAt _ (by omega)] at hB2
      have hz2 := hb2.size
      go_wp2
      go_roundw
      case rel => exact ⟨k + 1, by omega, by go_num, by rw [htk.out]; exact .inr hB2, (hb.trans hb1).trans hb2, by omega⟩
      case measure => simp [intOf]; omega
    · obtain rfl : k = l.length := by omega
      rw [List.take_length] at hB
      go_wp2_with fail
      refine (Tryd.builderString _ _ _ _ hB (by omega)).mono ?_
      rintro e w1 ⟨rfl, hb1⟩
      go_wp2
      go_ret
      exact ⟨rfl, hb.trans hb1⟩
/-- msgid.digits -/
theorem Tryd.digits (l : List UInt8) (hl : l.length = 32) (w : World) :
    Calls Tryd.prog 16 #[.agg (bv l).toArray] w fun e w' => e = .returned (.string ⟨(MsgPure.hex l).toArray⟩) ∧ Below w.heap.size w w' := by
  go_enter Tryd.func16, Tryd.ntmps16
  go_wp2_with fail
  have h := Tryd.hex l w.heap.size 0 32 (w.alloc (.cells (bv l).toArray 24)) (by omega) (by simp) (fun j hj => by
    rw [Go.cell_of_row _ _ _ _ _ _ (Go.heap_alloc_new w _)]; simpa using bv_get l j hj)
  rw [hl] at h
  refine h.mono ?_
  rintro e w1 ⟨rfl, hb⟩
  go_wp2
  go_ret
  exact ⟨rfl, ((Below.refl _ _).alloc (Nat.le_refl _) _).trans (hb.mono (by simp))⟩
/-- msgid.Print -/
theorem Tryd.print (l : List UInt8) (hl : l.length = 32) (w : World) :
    Calls Tryd.prog 20 #[.agg (bv l).toArray] w fun e w' => e = .returned (.string ⟨(MsgPure.prn l).toArray⟩) ∧ Below w.heap.size w w' := by
  have hlen : (MsgPure.hex l).length ≤ 64 := by rw [MsgPure.hex_length]; omega
  go_enter Tryd.func20, Tryd.ntmps20
  go_wp2_with (refine x_ld Tryd.arrId rfl _ rfl _ _ rfl l hl ?_ ?_; exact fun j v hj => by simpa using hj)
  refine (Tryd.digits l hl _).mono ?_
  rintro e w1 ⟨rfl, hb⟩
  go_wp2
  go_ret
  refine ⟨?_, ((Below.refl _ _).alloc (Nat.le_refl _) _).trans (hb.mono (by simp))⟩
  show Ending.returned (.string (⟨#[60]⟩ ++ ⟨_⟩ ++ ⟨#[64, 104, 97, 115, 104, 62]⟩)) = _
  rw [XK.str_app, XK.str_app]
  simp [MsgPure.prn, MsgPure.tail]
/-- msgid.IsZero -/
theorem Tryd.isZero (l : List UInt8) (hl : l.length = 32) (w : World) : Calls Tryd.prog 23 #[.agg (bv l).toArray] w fun e w' => e = .returned (.bool (l == z32)) ∧ Below w.heap.size w w' := by
  go_enter Tryd.func23, Tryd.ntmps23
  go_wp2_with (first
    | (refine x_ld Tryd.arrId rfl _ rfl _ _ rfl l hl ?_ ?_; exact fun j v hj => by simpa using hj)
    | (refine x_bz Tryd.arrId rfl rfl ?_)
    | (refine x_eq Tryd.arrId rfl _ _ _ rfl _ _ rfl rfl hl rfl ?_))
  go_ret
  exact ⟨rfl, (Below.refl _ _).alloc (Nat.le_refl _) _⟩
theorem XK.below_drewN {B : Nat} {a w : World} (h : Below B a w) (n : Nat) : Below B a (w.drewN n) := ⟨h.os, h.tape, h.output, h.size, h.block⟩
theorem XK.run_bytesOf_slice {P : Program} (w : World) (l : List UInt8) (g f c : Nat) (hc : ∀ j, j < l.length → w.cell? ⟨g, f + j, none⟩ = some (.int .u8 (l.getD j 0).toNat)) :
    (Extern.Bytes.bytesOf (.slice (some ⟨g, f, none⟩) l.length c)).run P w = .ok ⟨l.toArray⟩ w := by
  have h := Lib.run_loadBytesX (P := P) w (l.map fun b => (b.toNat : Int)) ⟨g, f, none⟩ .empty (fun j x hj => by
    have hjl : j < l.length := by have := (List.getElem?_eq_some_iff.1 hj).1; simpa using this
    have e : (⟨g, f, none⟩ : Addr).add j = ⟨g, f + j, none⟩ := by unfold Addr.add; split <;> simp_all
    rw [e, hc j hjl]
    rw [List.getElem?_map, List.getElem?_eq_getElem hjl] at hj
    simp only [Option.map_some, Option.some.injEq] at hj
    rw [← hj, List.getD_eq_getElem?_getD, List.getElem?_eq_getElem hjl]; rfl)
  rw [List.length_map] at h
  unfold Extern.Bytes.bytesOf
  simp only [h]
  congr 1
  apply ByteArray.ext
  have e : ((fun n : Int => UInt8.ofNat n.toNat) ∘ fun b : UInt8 => (b.toNat : Int)) = id := by funext b; simp
  simp [Lib.bytesOf, e]
theorem Tryd.run_compare (w : World) (l m : List UInt8) (g f c g' f' c' : Nat) (hc : ∀ j, j < l.length → w.cell? ⟨g, f + j, none⟩ = some (.int .u8 (l.getD j 0).toNat)) (hc' : ∀ j, j < m.length → w.cell? ⟨g', f' + j, none⟩ = some (.int .u8 (m.getD j 0).toNat)) :
    (callFunc 58 #[.slice (some ⟨g, f, none⟩) l.length c, .slice (some ⟨g', f', none⟩) m.length c']).run Tryd.prog w = .ok (.value (.int .i64 (Lib.compareBytes l m))) w := by
  rw [run_callFunc_extern Tryd.func58 (by kernel_rfl) rfl (by kernel_rfl) (show Extern.find _ = some Extern.BytealgCompare.compare by kernel_rfl)]
  have e : (Extern.BytealgCompare.compare #[.slice (some ⟨g, f, none⟩) l.length c, .slice (some ⟨g', f', none⟩) m.length c']).run Tryd.prog w = .ok (.int .i64 (Lib.compareBytes l m)) w := by
    change Sem.run _ (do pure (goInt (Extern.BytealgCompare.cmp (← Extern.Bytes.bytesOf (.slice (some ⟨g, f, none⟩) l.length c)) (← Extern.Bytes.bytesOf (.slice (some ⟨g', f', none⟩) m.length c'))))) w = _
    simp only [Sem.run_bind, XK.run_bytesOf_slice w l g f c hc, XK.run_bytesOf_slice w m g' f' c' hc', Sem.run_pure, Result.andThen]
    rw [Lib.cmp_eq]
    rfl
  rw [e]
  rfl
/-- bytes.Compare -/
theorem Tryd.bytesCompare (w : World) (l m : List UInt8) (g f c g' f' c' : Nat) (hc : ∀ j, j < l.length → w.cell? ⟨g, f + j, none⟩ = some (.int .u8 (l.getD j 0).toNat)) (hc' : ∀ j, j < m.length → w.cell? ⟨g', f' + j, none⟩ = some (.int .u8 (m.getD j 0).toNat)) :
    Calls Tryd.prog 43 #[.slice (some ⟨g, f, none⟩) l.length c, .slice (some ⟨g', f', none⟩) m.length c'] w fun e w' => e = .returned (.int .i64 (Lib.compareBytes l m)) ∧ w' = w := by
  have h := Tryd.run_compare w l m g f c g' f' c' hc hc'
  generalize Lib.compareBytes l m = r at h ⊢
  go_enter Tryd.func43, Tryd.ntmps43
  go_wp2
  go_ret
  exact ⟨rfl, rfl⟩
/-- msgid.Compare -/
theorem Tryd.compare (l m : List UInt8) (hl : l.length = 32) (hm : m.length = 32) (w : World) :
    Calls Tryd.prog 24 #[.agg (bv l).toArray, .agg (bv m).toArray] w fun e w' => e = .returned (.int .i64 (Lib.compareBytes l m)) ∧ Below w.heap.size w w' := by
  have key : ∀ n, Calls Tryd.prog 43 #[.slice (some ⟨w.heap.size, 0, none⟩) 32 32, .slice (some ⟨w.heap.size + 1, 0, none⟩) 32 32] (((w.alloc (.cells (bv l).toArray 24)).alloc (.cells (bv m).toArray 24)).drewN n) fun e w' => e = .returned (.int .i64 (Lib.compareBytes l m)) ∧ w' = (((w.alloc (.cells (bv l).toArray 24)).alloc (.cells (bv m).toArray 24)).drewN n) := by
    intro n
    have h := Tryd.bytesCompare (((w.alloc (.cells (bv l).toArray 24)).alloc (.cells (bv m).toArray 24)).drewN n) l m w.heap.size 0 32 (w.heap.size + 1) 0 32 (fun j hj => by
      show World.cell? ((w.alloc (.cells (bv l).toArray 24)).alloc (.cells (bv m).toArray 24)) _ = _
      rw [Go.cell_of_row _ _ _ _ _ _ (Go.heap_alloc2_old w _ _)]; simpa using bv_get l j hj) (fun j hj => by
      show World.cell? ((w.alloc (.cells (bv l).toArray 24)).alloc (.cells (bv m).toArray 24)) _ = _
      rw [Go.cell_of_row _ _ _ _ _ _ (Go.heap_alloc2_new w _ _)]; simpa using bv_get m j hj)
    rw [hl, hm] at h
    exact h
  generalize Lib.compareBytes l m = r at key ⊢
  go_enter Tryd.func24, Tryd.ntmps24
  go_wp2_with fail
  go_quiet ((go_at_call 43; exact Calls.quiet_of_same (key _)))
  go_wp2
  go_ret
  exact ⟨rfl, XK.below_drewN (((Below.refl _ _).alloc (Nat.le_refl _) _).alloc (by simp) _) _⟩
end Go.Proofs


/- contracts of the reference's functions on message identifiers -/
namespace Go.Proofs
open Go.RowKit XK
/-- the value of a digit, or -1 -/
def XK.dvI (c : UInt8) : Int := if MsgPure.isD c then (MsgPure.dv c : Int) else -1
/-- bulletinref11.digit -/
theorem Tryd.rdigit (c : UInt8) (w : World) : Calls Tryd.prog 17 #[.int .u8 c.toNat] w fun e w' => e = .returned (.int .i64 (XK.dvI c)) ∧ w = w' := by
  have hc := c.toNat_lt
  have hr : XK.dvI c = if 48 ≤ c.toNat ∧ c.toNat ≤ 57 then (c.toNat : Int) - 48 else if 97 ≤ c.toNat ∧ c.toNat ≤ 102 then (c.toNat : Int) - 97 + 10 else -1 := by
    unfold XK.dvI MsgPure.isD MsgPure.dv
    by_cases h1 : 48 ≤ c.toNat ∧ c.toNat ≤ 57
    · simp [h1]; omega
    · by_cases h2 : 97 ≤ c.toNat ∧ c.toNat ≤ 102
      · have : ¬ c.toNat ≤ 57 := by omega
        simp [h2, this]; omega
      · rw [if_neg h1, if_neg h2, if_neg]
        simp only [Bool.or_eq_true, Bool.and_eq_true, decide_eq_true_eq]
        omega
  have hR := Lib.hid hr
  clear hr
  generalize XK.dvI c = r at hR ⊢
  generalize c.toNat = n at hR hc ⊢
  by_cases h1 : n < 48
  · go_enter Tryd.func17, Tryd.ntmps17
    go_wp2
    go_ret
    exact ⟨by rw [hR.out, if_neg (by omega), if_neg (by omega)]; rfl, rfl⟩
  · by_cases h2 : n ≤ 57
    · go_enter Tryd.func17, Tryd.ntmps17
      go_wp2
      go_ret
      exact ⟨by rw [hR.out, if_pos (by omega)]; rfl, rfl⟩
    · by_cases h3 : n < 97
      · go_enter Tryd.func17, Tryd.ntmps17
        go_wp2
        go_ret
        exact ⟨by rw [hR.out, if_neg (by omega), if_neg (by omega)]; rfl, rfl⟩
      · by_cases h4 : n ≤ 102
        · go_enter Tryd.func17, Tryd.ntmps17
          go_wp2
          go_ret
          exact ⟨by rw [hR.out, if_neg (by omega), if_pos (by omega)]; rfl, rfl⟩
        · go_enter Tryd.func17, Tryd.ntmps17
          go_wp2
          go_ret
          exact ⟨by rw [hR.out, if_neg (by omega), if_neg (by omega)]; rfl, rfl⟩
theorem XK.hexExt (n : Nat) (h : n < 16) : (⟨#[48, 49, 50, 51, 52, 53, 54, 55, 56, 57, 97, 98, 99, 100, 101, 102]⟩ : ByteArray).extract n (n + 1) = ⟨#[MsgPure.hd n]⟩ := by
  have : ∀ n : Fin 16, (⟨#[48, 49, 50, 51, 52, 53, 54, 55, 56, 57, 97, 98, 99, 100, 101, 102]⟩ : ByteArray).extract n.1 (n.1 + 1) = ⟨#[MsgPure.hd n.1]⟩ := by decide
  exact this ⟨n, h⟩
theorem XK.hexStr (l : List UInt8) (k : Nat) (h : k < l.length) : (⟨(MsgPure.hex (l.take (k + 1))).toArray⟩ : ByteArray) = ⟨(MsgPure.hex (l.take k)).toArray⟩ ++ (⟨#[MsgPure.hd ((l.getD k 0).toNat / 16)]⟩ ++ ⟨#[MsgPure.hd ((l.getD k 0).toNat % 16)]⟩) := by
  rw [XK.str_app, XK.str_app, List.take_succ_eq_append_getElem h, MsgPure.hex_append, MsgPure.hex_cons, MsgPure.hex_nil, List.getD_eq_getElem?_getD, List.getElem?_eq_getElem h]
  simp
/-- bulletinref11.Digits -/
theorem Tryd.rDigits (l : List UInt8) (hl : l.length = 32) (w : World) :
    Calls Tryd.prog 18 #[.agg (bv l).toArray] w fun e w' => e = .returned (.string ⟨(MsgPure.hex l).toArray⟩) ∧ Below w.heap.size w w' := by
  go_enter Tryd.func18, Tryd.ntmps18
  go_wp2
  go_loopw [3, 4] (fun s i wr => ∃ k : Nat, k ≤ 32 ∧ i = .int .i64 k ∧ s = .string ⟨(MsgPure.hex (l.take k)).toArray⟩ ∧ Below w.heap.size w wr ∧ wr.heap[w.heap.size]? = some (.cells (bv l).toArray 28 (0, 0))) (fun _ i _ => 32 - (intOf i).toNat)
  case atStart =>
    exact ⟨0, by omega, rfl, by simp [MsgPure.hex], (Below.refl _ _).alloc (Nat.le_refl _) _, Go.heap_alloc_new w _⟩
  case round =>
    obtain ⟨k, hk, rfl, rfl, hb, hrow⟩ := hrel
    by_cases hlt : k < 32
    · have hcell : wr.cell? ⟨w.heap.size, k, none⟩ = some (.int .u8 (l.getD k 0).toNat) := by
        rw [Go.cell_of_row _ _ _ _ _ _ hrow]; simpa using bv_get l k (by omega)
      generalize hq : l.getD k 0 = x at hcell
      have hQ := Lib.hid hq
      clear hq
      have hx := x.toNat_lt
      have hlen : (MsgPure.hex (l.take k)).length ≤ 64 := by rw [MsgPure.hex_length, List.length_take]; omega
      go_wp2_with fail
      go_quiet (fail)
      go_wp2_with fail
      go_quiet (fail)
      go_wp2
      go_roundw
      case rel => exact ⟨k + 1, by omega, by go_num, by rw [XK.hexExt _ (by omega), XK.hexExt _ (by omega), XK.hexStr l k (by omega), hQ.out], XK.below_drewN hb _, hrow⟩
      case measure => simp [intOf]; omega
    · obtain rfl : k = 32 := by omega
      rw [← hl, List.take_length]
      go_wp2
      go_ret
      exact ⟨rfl, hb⟩
theorem XK.cmp_lt : ∀ (k : Nat) (l m : List UInt8), k < l.length → k < m.length → (∀ j, j < k → l.getD j 0 = m.getD j 0) → (l.getD k 0).toNat < (m.getD k 0).toNat → Lib.compareBytes l m = -1
  | 0, a :: l, b :: m, _, _, _, h => by
    have h' : a < b := UInt8.lt_iff_toNat_lt.2 h
    simp [Lib.compareBytes, h']
  | k + 1, a :: l, b :: m, h1, h2, h3, h => by
    have h0 : a = b := h3 0 (by omega)
    subst h0
    have hi : ¬ a < a := UInt8.lt_irrefl a
    rw [Lib.compareBytes, if_neg hi, if_neg hi]
    exact XK.cmp_lt k l m (by simpa using h1) (by simpa using h2) (fun j hj => h3 (j + 1) (by omega)) h
theorem XK.cmp_gt : ∀ (k : Nat) (l m : List UInt8), k < l.length → k < m.length → (∀ j, j < k → l.getD j 0 = m.getD j 0) → (m.getD k 0).toNat < (l.getD k 0).toNat → Lib.compareBytes l m = 1
  | 0, a :: l, b :: m, _, _, _, h => by
    have h' : b < a := UInt8.lt_iff_toNat_lt.2 h
    have h'' : ¬ a < b := fun e => by have := UInt8.lt_iff_toNat_lt.1 e; have := UInt8.lt_iff_toNat_lt.1 h'; omega
    simp [Lib.compareBytes, h', h'']
  | k + 1, a :: l, b :: m, h1, h2, h3, h => by
    have h0 : a = b := h3 0 (by omega)
    subst h0
    have hi : ¬ a < a := UInt8.lt_irrefl a
    rw [Lib.compareBytes, if_neg hi, if_neg hi]
    exact XK.cmp_gt k l m (by simpa using h1) (by simpa using h2) (fun j hj => h3 (j + 1) (by omega)) h
theorem XK.cmp_self : ∀ l : List UInt8, Lib.compareBytes l l = 0
  | [] => rfl
  | a :: l => by rw [Lib.compareBytes, if_neg (UInt8.lt_irrefl a), if_neg (UInt8.lt_irrefl a)]; exact XK.cmp_self l
theorem XK.eq_of_getD {l m : List UInt8} (n : Nat) (hl : l.length = n) (hm : m.length = n) (h : ∀ j, j < n → l.getD j 0 = m.getD j 0) : l = m := by
  apply List.ext_getElem?
  intro x
  rcases Nat.lt_or_ge x n with h' | h'
  · have := h x h'
    simp only [List.getD_eq_getElem?_getD] at this
    rw [List.getElem?_eq_getElem (by omega), List.getElem?_eq_getElem (by omega)] at this ⊢
    simpa using this
  · rw [List.getElem?_eq_none (by omega), List.getElem?_eq_none (by omega)]
end Go.Proofs

/- the reference's Parse of a message identifier -/
namespace Go.Proofs
open Go.RowKit XK
theorem XK.byte_at (s : ByteArray) (k : Nat) (h : k < s.size) : s[k]'h = s.data.toList.getD k 0 := by
  rw [List.getD_eq_getElem?_getD, List.getElem?_eq_getElem (by rw [Array.length_toList]; exact h)]
  rfl
/-- the array behind nd digits -/
def XK.val (s : List UInt8) (nd j : Nat) : Nat :=
  if 2 * j + 1 < nd then 16 * MsgPure.dv (s.getD (2 * j + 1) 0) + MsgPure.dv (s.getD (2 * j + 2) 0) else if 2 * j < nd then MsgPure.dv (s.getD (2 * j + 1) 0) else 0
def XK.idl (s : List UInt8) (nd : Nat) : List UInt8 := (List.range 32).map fun j => UInt8.ofNat (XK.val s nd j)
theorem XK.idl_length (s : List UInt8) (nd : Nat) : (XK.idl s nd).length = 32 := by simp [XK.idl]
theorem XK.idl_zero (s : List UInt8) : XK.idl s 0 = z32 := by simp [XK.idl, XK.val, z32]; decide
theorem XK.idl_get (s : List UInt8) (nd j : Nat) (h : j < 32) : (XK.idl s nd).getD j 0 = UInt8.ofNat (XK.val s nd j) := by
  simp [XK.idl, List.getD_eq_getElem?_getD, h]
/-- one digit more -/
theorem XK.idl_succ (s : List UInt8) (nd : Nat) : XK.idl s (nd + 1) = (XK.idl s nd).set (nd / 2) (UInt8.ofNat (XK.val s nd (nd / 2) * 16 + MsgPure.dv (s.getD (nd + 1) 0))) := by
  apply XK.eq_of_getD 32 (XK.idl_length _ _) (by rw [List.length_set, XK.idl_length])
  intro j hj
  rw [XK.idl_get _ _ _ hj, List.getD_eq_getElem?_getD, List.getElem?_set]
  by_cases hq : nd / 2 = j
  · subst hq
    rw [if_pos rfl, if_pos (by rw [XK.idl_length]; omega)]
    show _ = UInt8.ofNat _
    congr 1
    unfold XK.val
    rcases Nat.mod_two_eq_zero_or_one nd with h2 | h2
    · rw [if_neg (by omega), if_pos (by omega), if_neg (by omega), if_neg (by omega), show 2 * (nd / 2) + 1 = nd + 1 by omega]; omega
    · rw [if_pos (by omega), if_neg (by omega), if_pos (by omega), show 2 * (nd / 2) + 2 = nd + 1 by omega]; omega
  · rw [if_neg hq, ← List.getD_eq_getElem?_getD, XK.idl_get _ _ _ hj]
    congr 1
    unfold XK.val
    by_cases h1 : 2 * j + 1 < nd
    · rw [if_pos h1, if_pos (by omega)]
    · by_cases h2 : 2 * j < nd
      · rw [if_neg h1, if_pos h2]
        by_cases h3 : 2 * j + 1 < nd + 1
        · exact absurd (show nd / 2 = j by omega) hq
        · rw [if_neg h3, if_pos (by omega)]
      · rw [if_neg h1, if_neg h2, if_neg (by omega), if_neg (by omega)]
theorem XK.unhex_getD : ∀ (n : Nat) (t : List UInt8) (j : Nat), t.length = 2 * n → j < n → (MsgPure.unhex t).getD j 0 = UInt8.ofNat (16 * MsgPure.dv (t.getD (2 * j) 0) + MsgPure.dv (t.getD (2 * j + 1) 0))
  | n + 1, a :: b :: r, 0, _, _ => rfl
  | n + 1, a :: b :: r, j + 1, h, hj => by
    rw [MsgPure.unhex, List.getD_cons_succ, XK.unhex_getD n r j (by simp at h; omega) (by omega)]
    rw [show 2 * (j + 1) = 2 * j + 1 + 1 by omega]
    simp only [List.getD_cons_succ]
/-- all digits read -/
theorem XK.idl_all (s : List UInt8) (h : s.length = 71) : XK.idl s 64 = MsgPure.unhex ((s.drop 1).take 64) := by
  have h64 : ((s.drop 1).take 64).length = 2 * 32 := by simp [h]
  apply XK.eq_of_getD 32 (XK.idl_length _ _) (MsgPure.unhex_length 32 _ h64)
  intro j hj
  have e : ∀ i, i < 64 → ((s.drop 1).take 64).getD i 0 = s.getD (i + 1) 0 := fun i hi => by
    rw [List.getD_eq_getElem?_getD, List.getElem?_take, if_pos hi, List.getElem?_drop, Nat.add_comm, ← List.getD_eq_getElem?_getD]
  rw [XK.idl_get _ _ _ hj, XK.unhex_getD 32 _ j h64 hj, e _ (by omega), e _ (by omega)]
  unfold XK.val
  rw [if_pos (by omega)]
theorem XK.bv_set (l : List UInt8) (i : Nat) (x : UInt8) : (bv l).toArray.setIfInBounds i (.int .u8 x.toNat) = (bv (l.set i x)).toArray := by
  simp [bv, Lib.byteCells, List.map_set]
theorem XK.val_lt (s : List UInt8) (nd : Nat) (h : ∀ i, 1 ≤ i → i ≤ nd → MsgPure.isD (s.getD i 0) = true) : XK.val s nd (nd / 2) < 16 := by
  unfold XK.val
  rw [if_neg (by omega)]
  split
  · exact (MsgPure.dv_lt _ (h _ (by omega) (by omega))).1
  · omega
/-- three results, the first an array in memory -/
theorem XK.results_arr {P : Program} {T e : TypeId} (A : Arr P T e) {fn : Func} {p t u : Tmp} (h : fn.results = #[.cell p T, .tmp t, .tmp u]) (tmps : Array Value) (w : World) (g : Nat) (ty : TypeId) (l : List UInt8) (hl : l.length = 32)
    (hp : tmps.getD p undef = .pointer (some ⟨g, 0, none⟩)) (hg : w.heap[g]? = some (.cells (bv l).toArray ty (0, 0))) :
    (results fn tmps).run P w = .ok (.tuple #[.agg (bv l).toArray, tmps.getD t undef, tmps.getD u undef]) w := by
  have hp' : tmps[p]?.getD undef = .pointer (some ⟨g, 0, none⟩) := by simpa using hp
  simp [results, h, hp', asAddr, run_loadVar_row w g ty T (bv l).toArray (0, 0) _ hg A.ut rfl (by rw [A.st]; simp [bv_length, hl])]
theorem XK.row_set {w : World} {g : Nat} {l : List UInt8} {T : TypeId} (hg : w.heap[g]? = some (.cells (bv l).toArray T (0, 0))) (i : Nat) (x : UInt8) :
    (w.setCell ⟨g, i, none⟩ (.int .u8 x.toNat)).heap[g]? = some (.cells (bv (l.set i x)).toArray T (0, 0)) := by
  rw [heap_setCell_same w g i _ T _ hg, XK.bv_set]
/-- what Parse of a text is, as a value -/
def XK.pval (s : List UInt8) : Value := .tuple #[.agg (bv (MsgPure.parse s).id).toArray, .int .i64 (MsgPure.parse s).at_, .int .i64 (MsgPure.parse s).e]
end Go.Proofs

/- ascii.Unhex at a text of digits, and msgid.Parse -/
namespace Go.Proofs
open Go.RowKit XK
theorem XK.indexHex (c : UInt8) : Lib.indexByte [48, 49, 50, 51, 52, 53, 54, 55, 56, 57, 97, 98, 99, 100, 101, 102] c = XK.dvI c := by
  have : ∀ c : Fin 256, Lib.indexByte [48, 49, 50, 51, 52, 53, 54, 55, 56, 57, 97, 98, 99, 100, 101, 102] (UInt8.ofNat c.1) = XK.dvI (UInt8.ofNat c.1) := by decide +kernel
  have := this ⟨c.toNat, c.toNat_lt⟩
  simpa using this
/-- the closure of ascii.Unhex -/
theorem Tryd.unhexV (c : UInt8) (w : World) : Calls Tryd.prog 55 #[.int .u8 c.toNat] w fun e w' => e = .returned (.int .i64 (XK.dvI c)) ∧ w' = w := by
  have h := Tryd.indexByte ⟨#[48, 49, 50, 51, 52, 53, 54, 55, 56, 57, 97, 98, 99, 100, 101, 102]⟩ c.toNat w
  rw [show (⟨#[48, 49, 50, 51, 52, 53, 54, 55, 56, 57, 97, 98, 99, 100, 101, 102]⟩ : ByteArray).data.toList = [48, 49, 50, 51, 52, 53, 54, 55, 56, 57, 97, 98, 99, 100, 101, 102] from rfl, Int.toNat_natCast, Nat.toUInt8_eq, UInt8.ofNat_toNat, XK.indexHex] at h
  generalize XK.dvI c = r at h ⊢
  go_enter Tryd.func55, Tryd.ntmps55
  go_wp2_with (go_at_call 39; refine h.mono ?_; rintro e w' ⟨rfl, rfl⟩)
  go_ret
  exact ⟨rfl, rfl⟩
theorem XK.or16 (x y : Nat) (hx : x < 16) (hy : y < 16) : bits BinOp.or IntKind.i64 ((x : Int) * 16) (y : Int) = ((x : Int) * 16 + y) := by
  have : ∀ x y : Fin 16, bits BinOp.or IntKind.i64 ((x.1 : Int) * 16) (y.1 : Int) = ((x.1 : Int) * 16 + y.1) := by decide +kernel
  exact this ⟨x, hx⟩ ⟨y, hy⟩
theorem XK.dvI_of {c : UInt8} (h : MsgPure.isD c = true) : XK.dvI c = (MsgPure.dv c : Nat) := by unfold XK.dvI; rw [if_pos h]
theorem XK.unhex_append : ∀ (n : Nat) (a b : List UInt8), a.length = 2 * n → MsgPure.unhex (a ++ b) = MsgPure.unhex a ++ MsgPure.unhex b
  | 0, [], b, _ => rfl
  | n + 1, x :: y :: r, b, h => by
    rw [List.cons_append, List.cons_append, MsgPure.unhex, MsgPure.unhex, XK.unhex_append n r b (by simp at h; omega)]
    rfl
theorem XK.unhex_take (s : ByteArray) (k : Nat) (h : 2 * k + 1 < s.size) : MsgPure.unhex (s.data.toList.take (2 * (k + 1))) = MsgPure.unhex (s.data.toList.take (2 * k)) ++ [UInt8.ofNat (16 * MsgPure.dv (s[2 * k]'(by omega)) + MsgPure.dv (s[2 * k + 1]'h))] := by
  have hl : s.data.toList.length = s.size := by rw [Array.length_toList]; rfl
  have e : s.data.toList.take (2 * (k + 1)) = s.data.toList.take (2 * k) ++ [s[2 * k]'(by omega), s[2 * k + 1]'h] := by
    rw [show 2 * (k + 1) = 2 * k + 1 + 1 by omega, List.take_succ_eq_append_getElem (by omega), List.take_succ_eq_append_getElem (by omega), List.append_assoc]
    rfl
  rw [e, XK.unhex_append k _ _ (by rw [List.length_take]; omega)]
  rfl
set_option maxRecDepth 100000 in
/-- ascii.Unhex at digits -/
theorem Tryd.unhex (s : ByteArray) (n : Nat) (hn : s.size = 2 * n) (hn2 : n ≤ 1000) (hd : ∀ j, j < s.size → MsgPure.isD (s.data.toList.getD j 0) = true) (w : World) :
    Calls Tryd.prog 40 #[.string s] w fun e w' => ∃ v, e = .returned (.tuple #[v, .int .i64 0]) ∧ w'.ownsRow w.heap.size 5 1 v n (bv (MsgPure.unhex s.data.toList)) ∧ Below w.heap.size w w' := by
  have hrem : ((s.size : Int) % 2 != 0) = false := by
    rw [bne_eq_false_iff_eq, hn]; omega
  have hsz : s.size ≤ 2000 := by omega
  have hN := Lib.hid hn
  clear hn
  go_enter Tryd.func40, Tryd.ntmps40
  go_wp2
  go_loopw [4, 6] (fun v i wr => ∃ k : Nat, k ≤ n ∧ i = .int .i64 (2 * (k : Int)) ∧ wr.ownsRow w.heap.size 5 1 v k (bv (MsgPure.unhex (s.data.toList.take (2 * k)))) ∧ Below w.heap.size w wr) (fun _ i _ => s.size - (intOf i).toNat)
  case atStart =>
    exact ⟨0, Nat.zero_le _, rfl, World.ownsRow_nil _ _ _ _, Below.refl _ _⟩
  case round =>
    obtain ⟨k, hk, rfl, hown, hb⟩ := hrel
    by_cases hlt : k < n
    · have hn := hN.out
      have i1 : 2 * k < s.size := by omega
      have i2 : 2 * k + 1 < s.size := by omega
      have j1 : (0 : Int) ≤ 2 * (k : Int) := by omega
      have j2 : 2 * (k : Int) < s.size := by omega
      have j3 : 2 * (k : Int) + 1 < s.size := by omega
      have j4 : (0 : Int) ≤ 2 * (k : Int) + 1 := by omega
      have j5 : IntKind.i64.wrap (2 * (k : Int) + 1) = 2 * (k : Int) + 1 := IntWalk.i64_in _ (by omega)
      have j6 : (2 * (k : Int)).toNat = 2 * k := by omega
      have j7 : (2 * (k : Int) + 1).toNat = 2 * k + 1 := by omega
      clear hn
      go_wp2_with fail
      go_quiet ((go_at_call 55; exact Calls.quiet_of_same (Tryd.unhexV _ _)))
      have hd1 := hd (2 * k) i1
      have hd2 := hd (2 * k + 1) i2
      rw [← XK.byte_at s _ i1] at hd1
      rw [← XK.byte_at s _ i2] at hd2
      rw [XK.dvI_of hd1, XK.dvI_of hd2]
      have l1 := (MsgPure.dv_lt _ hd1).1
      have l2 := (MsgPure.dv_lt _ hd2).1
      have hst := Lib.hid (XK.unhex_take s k i2)
      clear hd1 hd2 hd
      generalize MsgPure.dv (s[2 * k]'i1) = x at l1 hst ⊢
      generalize MsgPure.dv (s[2 * k + 1]'i2) = y at l2 hst ⊢
      have hor : bits BinOp.or IntKind.i64 ((x : Int) * 16) (y : Int) = ((x : Int) * 16 + y) := XK.or16 x y l1 l2
      have hown' : (wr.drewN nq).ownsRow w.heap.size 5 1 u4 k (bv (MsgPure.unhex (s.data.toList.take (2 * k)))) := hown
      have hOwn := Lib.hid hown'
      have hsz0 : (wr.drewN nq).heap.size = wr.heap.size := rfl
      clear hown hown'
      go_wp2_with (at_builtin; refine x_app rfl _ _ 68 rfl w.heap.size 5 (.int .u8 0) 1 1 Tryd.underlying68 (by kernel_rfl) rfl (by decide) _ k _ rfl hOwn.out 1 [_] _ rfl rfl rfl (XK.one_of rfl) (by omega) (by decide) hb.size ?_)
      intro v' w1 hown1 hg1 _ _
      obtain ⟨A, c, rfl⟩ := XK.own_slice hown1
      have hb1 : Below w.heap.size w w1 := hb.trans (((XK.below_drewN (Below.refl _ _) nq).grown hg1 hb.size (fun j e => (hOwn.out.lt j e).1)))
      have hown2 : w1.ownsRow w.heap.size 5 1 (.slice A (k + 1) c) (k + 1) (bv (MsgPure.unhex (s.data.toList.take (2 * (k + 1))))) := by
        rw [hst.out]
        have e : (UInt8.ofNat (16 * x + y)).toNat = x * 16 + y := by rw [UInt8.toNat_ofNat']; omega
        have e2 : ∀ u : List UInt8, bv (u ++ [UInt8.ofNat (16 * x + y)]) = bv u ++ [.int .u8 ((x : Int) * 16 + y)] := fun u => by
          simp only [bv, Lib.byteCells, List.map_append, List.map_cons, List.map_nil, e]
          rfl
        rw [e2]
        exact hown1
      clear hown1 hg1 hOwn hst hor hb
      go_wp2
      go_roundw
      case rel => exact ⟨k + 1, by omega, by go_num, hown2, hb1⟩
      case measure => simp [intOf]; omega
    · obtain rfl : k = n := by omega
      obtain ⟨A, c, rfl⟩ := XK.own_slice hown
      have hn := hN.out
      rw [← hn, List.take_of_length_le (by rw [Array.length_toList]; exact Nat.le_refl _)] at hown
      have hlt' : ¬ 2 * (k : Int) < s.size := by omega
      clear hd hn hlt
      go_wp2
      go_ret2
      exact ⟨_, rfl, hown, hb⟩
end Go.Proofs

/- msgid.Parse -/
namespace Go.Proofs
open Go.RowKit XK
/-- what stands at place i of the zero identity's text -/
theorem XK.okAt_form (s : List UInt8) (i : Nat) (h : i < 71) (hi : i = 0 ∨ 65 ≤ i) : MsgPure.okAt s i = (s.getD i 0 == (MsgPure.prn z32).getD i 0) := by
  have hp := MsgPure.prn_at (l := z32) rfl i
  unfold MsgPure.okAt
  rcases hi with hi | hi
  · subst hi; rw [if_pos rfl, hp, if_pos rfl]
  · rw [if_neg (by omega), if_neg (by omega), hp, if_neg (by omega), if_neg (by omega)]
theorem XK.okAt_digit (s : List UInt8) (i : Nat) (h1 : 1 ≤ i) (h2 : i < 65) : MsgPure.okAt s i = MsgPure.isD (s.getD i 0) := by
  unfold MsgPure.okAt
  rw [if_neg (by omega), if_pos (by omega)]
theorem XK.splice_all {α : Type} (a b : List α) (h : a.length = b.length) : splice a 0 b = b := by
  simp [splice, ← h]
/-- strings.IndexByte in the digits -/
theorem Tryd.indexHexC (c : UInt8) (w : World) : Calls Tryd.prog 39 #[.string ⟨#[48, 49, 50, 51, 52, 53, 54, 55, 56, 57, 97, 98, 99, 100, 101, 102]⟩, .int .u8 c.toNat] w fun e w' => e = .returned (.int .i64 (XK.dvI c)) ∧ w' = w := by
  have h := Tryd.indexByte ⟨#[48, 49, 50, 51, 52, 53, 54, 55, 56, 57, 97, 98, 99, 100, 101, 102]⟩ c.toNat w
  rwa [show (⟨#[48, 49, 50, 51, 52, 53, 54, 55, 56, 57, 97, 98, 99, 100, 101, 102]⟩ : ByteArray).data.toList = [48, 49, 50, 51, 52, 53, 54, 55, 56, 57, 97, 98, 99, 100, 101, 102] from rfl, Int.toNat_natCast, Nat.toUInt8_eq, UInt8.ofNat_toNat, XK.indexHex] at h
set_option maxRecDepth 100000 in
set_option maxHeartbeats 800000 in
/-- msgid.Parse -/
theorem Tryd.parse (s : ByteArray) (hs : s.size ≤ 9223372036854775807) (w : World) :
    Calls Tryd.prog 21 #[.string s] w fun e w' => e = .returned (XK.pval s.data.toList) ∧ Below w.heap.size w w' := by
  have hsz : s.data.toList.length = s.size := by rw [Array.length_toList]; rfl
  obtain ⟨F, hF⟩ : ∃ F : ByteArray, F = ⟨(MsgPure.prn z32).toArray⟩ := ⟨_, rfl⟩
  have hF71 : F.size = 71 := by rw [hF]; rfl
  have hFl : F.data.toList = MsgPure.prn z32 := by rw [hF]
  have hprint := Tryd.print z32 rfl
  rw [← hF] at hprint
  clear hF
  obtain ⟨M, hM⟩ : ∃ M : Nat, M = min s.size 71 := ⟨_, rfl⟩
  have hMi : min (s.size : Int) 71 = (M : Int) := by subst hM; omega
  have hM1 : M ≤ s.size := by omega
  have hM2 : M ≤ 71 := by omega
  have hM3 : M = s.size ∨ M = 71 := by omega
  have HM := Lib.hid hM3
  have HF := Lib.hid hF71
  have HFl := Lib.hid hFl
  clear hM hM3 hF71 hFl
  go_enter Tryd.func21, Tryd.ntmps21
  go_wp2_with (first | (refine x_al Tryd.arrId rfl rfl ?_) | (refine x_bz Tryd.arrId rfl rfl ?_) | (go_at_call 20; refine (hprint _).mono ?_; rintro e w1 ⟨rfl, hb1⟩))
  have hrow1 : w1.heap[w.heap.size]? = some (.cells (bv z32).toArray 24 (0, 0)) := (hb1.block _ (by simp)).trans (Go.heap_alloc_new w _)
  have hB1 : Below w.heap.size w w1 := ((Below.refl _ _).alloc (Nat.le_refl _) _).trans (hb1.mono (by simp))
  clear hb1 hprint hMi
  go_loopw [15] (fun i wr => ∃ k : Nat, k ≤ M ∧ i = .int .i64 k ∧ (∀ j, j < k → MsgPure.okAt s.data.toList j = true) ∧ Below w.heap.size w wr ∧ wr.heap[w.heap.size]? = some (.cells (bv z32).toArray 24 (0, 0))) (fun i _ => M - (intOf i).toNat)
  case atStart => exact ⟨0, by omega, rfl, fun j hj => by omega, hB1, hrow1⟩
  case round =>
    clear hB1 hrow1
    obtain ⟨k, hk, rfl, hok, hb, hrow⟩ := hrel
    by_cases hlt : k < M
    · have hks : k < s.size := by omega
      have hk71 : k < 71 := by omega
      have hkF : k < F.size := by rw [HF.out]; exact hk71
      have i1 : (k : Int) < s.size := by omega
      have i2 : (k : Int) < F.size := by omega
      have hby := XK.byte_at s k hks
      by_cases hd : 1 ≤ k ∧ k < 65
      · obtain ⟨d1, d2⟩ := hd
        have e1 : decide ((1 : Int) ≤ (k : Int)) = true := decide_eq_true (by omega)
        have e65 : decide ((k : Int) < 65) = true := decide_eq_true (by omega)
        have hokd := XK.okAt_digit s.data.toList k d1 d2
        rw [← hby] at hokd
        by_cases hx : MsgPure.isD (s[k]'hks) = true
        · have hdv := XK.dvI_of hx
          have hokn : Hid (∀ j, j < k + 1 → MsgPure.okAt s.data.toList j = true) := Lib.hid fun j hj => by
            rcases Nat.lt_or_eq_of_le (Nat.lt_succ_iff.1 hj) with h' | h'
            · exact hok j h'
            · rw [h', hokd, hx]
          clear hok hokd hby
          have hcall := fun W => Tryd.indexHexC (s[k]'hks) W
          rw [hdv] at hcall
          clear hdv hx
          generalize MsgPure.dv (s[k]'hks) = d at hcall
          have hd0 : decide ((d : Int) < 0) = false := decide_eq_false (by omega)
          go_wp2_with fail
          go_quiet ((go_at_call 39; exact Calls.quiet_of_same (hcall _)))
          go_wp2
          go_roundw
          case rel => exact ⟨k + 1, by omega, by go_num, hokn.out, XK.below_drewN hb _, hrow⟩
          case measure => simp [intOf]; omega
        · have hdv : XK.dvI (s[k]'hks) = -1 := by unfold XK.dvI; rw [if_neg hx]
          have hp := Lib.hid (MsgPure.parse_bad (s := s.data.toList) (k := k) (by omega) hk71 (by rw [hokd]; simpa using hx) hok)
          clear hok hokd hby
          have hcall := fun W => Tryd.indexHexC (s[k]'hks) W
          rw [hdv] at hcall
          clear hdv hx
          go_wp2_with fail
          go_quiet ((go_at_call 39; exact Calls.quiet_of_same (hcall _)))
          go_wp2_with (first | (refine x_bz Tryd.arrId rfl rfl ?_) | (refine x_st0 Tryd.arrId rfl _ _ rfl _ rfl z32 rfl rfl _ _ hrow rfl ?_))
          refine bodyPost_ret (XK.results_arr Tryd.arrId rfl _ _ _ _ z32 rfl rfl (setRow_heap _ _ _ _ _ _ hrow)) rfl ⟨?_, below_setRow (XK.below_drewN hb _) (Nat.le_refl _) _⟩
          rw [XK.pval, hp.out]; rfl
      · have hdz : k = 0 ∨ 65 ≤ k := by omega
        have hokd := XK.okAt_form s.data.toList k hk71 hdz
        have hbF := XK.byte_at F k hkF
        rw [HFl.out] at hbF
        rw [← hby, ← hbF] at hokd
        have hO := Lib.hid hokd
        have hok' := Lib.hid hok
        clear hokd hbF hby hok
        have hcase : (decide ((1 : Int) ≤ (k : Int)) = false) ∨ (decide ((1 : Int) ≤ (k : Int)) = true ∧ decide ((k : Int) < 65) = false) := by
          rcases hdz with h | h
          · exact .inl (decide_eq_false (by omega))
          · exact .inr ⟨decide_eq_true (by omega), decide_eq_false (by omega)⟩
        by_cases hx : s[k]'hks = F[k]'hkF
        · have hne : (((s[k]'hks).toNat : Int) != ((F[k]'hkF).toNat : Int)) = false := by rw [hx]; simp
          have hokn : Hid (∀ j, j < k + 1 → MsgPure.okAt s.data.toList j = true) := Lib.hid fun j hj => by
            rcases Nat.lt_or_eq_of_le (Nat.lt_succ_iff.1 hj) with h' | h'
            · exact hok'.out j h'
            · rw [h', hO.out, hx]; simp
          clear hx hdz hd
          rcases hcase with h | ⟨h, h'⟩
          all_goals
            go_wp2_with fail
            go_quiet (fail)
            go_wp2
            go_roundw
            case rel => exact ⟨k + 1, by omega, by go_num, hokn.out, XK.below_drewN hb _, hrow⟩
            case measure => simp [intOf]; omega
        · have hne : (((s[k]'hks).toNat : Int) != ((F[k]'hkF).toNat : Int)) = true := by
            rw [bne_iff_ne]; intro e; exact hx (UInt8.toNat_inj.1 (by omega))
          have hp := Lib.hid (MsgPure.parse_bad (s := s.data.toList) (k := k) (by omega) hk71 (by rw [hO.out]; simpa using hx) hok'.out)
          clear hx hdz hd
          rcases hcase with h | ⟨h, h'⟩
          all_goals
            go_wp2_with fail
            go_quiet (fail)
            go_wp2_with (first | (refine x_bz Tryd.arrId rfl rfl ?_) | (refine x_st0 Tryd.arrId rfl _ _ rfl _ rfl z32 rfl rfl _ _ hrow rfl ?_))
            refine bodyPost_ret (XK.results_arr Tryd.arrId rfl _ _ _ _ z32 rfl rfl (setRow_heap _ _ _ _ _ _ hrow)) rfl ⟨?_, below_setRow (XK.below_drewN hb _) (Nat.le_refl _) _⟩
            rw [XK.pval, hp.out]; rfl
    · have hM3 := HM.out
      rcases Nat.lt_trichotomy s.size 71 with h71 | h71 | h71
      · obtain rfl : k = s.size := by omega
        have hp := Lib.hid (MsgPure.parse_short (s := s.data.toList) (by omega) (fun j hj => hok j (by omega)))
        rw [hsz] at hp
        obtain rfl : s.size = M := by omega
        clear hok hM3 hlt
        go_wp2_with (first | (refine x_bz Tryd.arrId rfl rfl ?_) | (refine x_st0 Tryd.arrId rfl _ _ rfl _ rfl z32 rfl rfl _ _ hrow rfl ?_))
        refine bodyPost_ret (XK.results_arr Tryd.arrId rfl _ _ _ _ z32 rfl rfl (setRow_heap _ _ _ _ _ _ hrow)) rfl ⟨?_, below_setRow hb (Nat.le_refl _) _⟩
        rw [XK.pval, hp.out]; rfl
      · obtain rfl : M = 71 := by omega
        obtain rfl : k = 71 := by omega
        have hp := Lib.hid (MsgPure.parse_ok (s := s.data.toList) (by omega) (fun j hj => hok j (by omega)))
        obtain ⟨t, ht⟩ : ∃ t : ByteArray, t = s.extract 1 65 := ⟨_, rfl⟩
        have hte : t.data.toList = (s.data.toList.drop 1).take 64 := by
          rw [ht, Lib.extract_data]
        have htl : t.size = 2 * 32 := by
          have : t.data.toList.length = t.size := by rw [Array.length_toList]; rfl
          rw [← this, hte, List.length_take, List.length_drop]; omega
        have hun := fun W => Tryd.unhex t 32 htl (by omega) (fun j hj => by
          rw [hte, List.getD_eq_getElem?_getD, List.getElem?_take, if_pos (by omega), List.getElem?_drop, ← List.getD_eq_getElem?_getD, Nat.add_comm]
          rw [← XK.okAt_digit _ _ (by omega) (by omega)]
          exact hok _ (by omega)) W
        rw [hte] at hun
        rw [ht] at hun
        have hul : (MsgPure.unhex ((s.data.toList.drop 1).take 64)).length = 32 := MsgPure.unhex_length 32 _ (by rw [List.length_take, List.length_drop]; omega)
        clear hok hM3 hlt ht hte htl
        generalize MsgPure.unhex ((s.data.toList.drop 1).take 64) = il at hp hun hul
        have e71 : (s.size : Int) = 71 := by omega
        have i65 : (65 : Int) ≤ s.size := by omega
        have i65' : 65 ≤ s.size := by omega
        clear i65 i65'
        go_wp2_with fail
        refine (hun _).mono ?_
        rintro e w2 ⟨v, rfl, hown, hb2⟩
        obtain ⟨g, cap, rfl, hg1, hg2⟩ := hown.form (by omega)
        have hrow2 : w2.heap[w.heap.size]? = some (.cells (bv z32).toArray 24 (0, 0)) := (hb2.block _ (Array.getElem?_eq_some_iff.1 hrow).1).trans hrow
        have hB2 : Below w.heap.size w w2 := hb.trans (hb2.mono hb.size)
        clear hun hb2 hb hrow
        have hOwn := Lib.hid hown
        clear hown
        go_wp2_with (refine wpList_copy_splice rfl _ _ 68 68 rfl 5 Tryd.underlying68 (by kernel_rfl) (some ⟨w.heap.size, 0, none⟩) (some ⟨g, 0, none⟩) 32 32 32 cap rfl rfl w.heap.size 0 (bv z32) 24 hrow2 (bv il) ?c1 ?c2 ?c3 (bv_one il) w.heap.size w hB2 (Nat.le_refl _) ?_)
        case c1 => rw [bv_length, hul]; rfl
        case c2 =>
          intro _ j v hj
          have := hOwn.out.cells (g := g) rfl j v hj
          rwa [show (⟨g, 0, none⟩ : Addr).add j = ⟨g, j, none⟩ by unfold Addr.add; split <;> simp_all] at this
        case c3 => rw [bv_length, bv_length, hul]; decide
        intro w3 hrow3 hB3
        have hrow3 : w3.heap[w.heap.size]? = some (.cells (bv il).toArray 24 (0, 0)) := by
          have := hrow3.out
          rwa [XK.splice_all _ _ (by rw [bv_length, bv_length, hul]; rfl)] at this
        clear hOwn hrow2 hB2
        go_wp2_with (first | (refine x_ld Tryd.arrId rfl _ rfl _ _ rfl il hul ?_ ?_; exact fun j v hj => by rw [Go.cell_of_row _ _ _ _ _ _ hrow3]; simpa using hj) | (refine x_st0 Tryd.arrId rfl _ _ rfl _ rfl il rfl hul _ _ hrow3 ?_ ?_; exact (by simp [bv_length, hul])))
        refine bodyPost_ret (XK.results_arr Tryd.arrId rfl _ _ _ _ il hul rfl (setRow_heap _ _ _ _ _ _ hrow3)) rfl ⟨?_, below_setRow hB3 (Nat.le_refl _) _⟩
        rw [XK.pval, hp.out]; rfl
      · obtain rfl : M = 71 := by omega
        obtain rfl : k = 71 := by omega
        have hp := Lib.hid (MsgPure.parse_long (s := s.data.toList) (by omega) (fun j hj => hok j (by omega)))
        clear hok hM3 hlt
        go_wp2_with (first | (refine x_bz Tryd.arrId rfl rfl ?_) | (refine x_st0 Tryd.arrId rfl _ _ rfl _ rfl z32 rfl rfl _ _ hrow rfl ?_))
        refine bodyPost_ret (XK.results_arr Tryd.arrId rfl _ _ _ _ z32 rfl rfl (setRow_heap _ _ _ _ _ _ hrow)) rfl ⟨?_, below_setRow hb (Nat.le_refl _) _⟩
        rw [XK.pval, hp.out]; rfl
end Go.Proofs
