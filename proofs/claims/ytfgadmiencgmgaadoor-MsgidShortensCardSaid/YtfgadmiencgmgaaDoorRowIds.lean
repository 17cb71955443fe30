/- a list of identities among the arguments, opened -/
import Derived.Test.YtfgadmiencgmgaaDoorRowKit
import Derived.Test.YtfgadmiencgmgaaDoorGB
namespace Go.Proofs.XK
open Go.ChangeShapes Go.WideShapes Go.ChangeAt Go.RowKit
section
variable {H : Type} {enc : TypeId × Value → H} {P : Program} {w : World} {base : Nat} {spare : Nat → Bool} {held : Bool}
/-- an array of bytes, read -/
theorem arr_of_trod {n fuel : Nat} {t e : TypeId} {cs : List Value} {x : DataW H × List MemPlace} (ht : P.underlying t = some (.array n e)) (he : P.underlying e = some (.int .u8)) (hce : P.cellsOf e = 1) (hct : P.cellsOf t = n)
    (hf : DataW.trod enc P w base spare held fuel t cs = some x) : ∃ l : List UInt8, l.length = n ∧ cs = bv l := by
  obtain ⟨xs, m, _, _, hlen, hxl, hi⟩ := DataW.trod_array ht hf
  have hsz : cs.length = n := by rw [hlen, hct]
  have hel : ∀ i, i < n → ∃ q : UInt8, cs[i]? = some (.int .u8 q.toNat) := by
    intro i hin
    have h1 := hi i hin
    rw [hce, Nat.mul_one] at h1
    have h2 : (cs.drop i).take 1 = [cs[i]'(by omega)] := by
      rw [List.drop_eq_getElem_cons (by omega)]
      rfl
    rw [h2, List.getElem?_eq_getElem (by omega)] at h1
    obtain ⟨q, e1, _, e2⟩ := DataW.trod_int he h1
    have hq : cs[i]'(by omega) = .int .u8 q := by simpa using e1
    have hw : 0 ≤ q ∧ q ≤ 255 := by
      have hmin : IntKind.u8.min = 0 := rfl
      have hmax : IntKind.u8.max = 255 := rfl
      simp only [Lit.wf, Bool.and_eq_true, decide_eq_true_eq] at e2; omega
    refine ⟨UInt8.ofNat q.toNat, ?_⟩
    rw [List.getElem?_eq_getElem (by omega), hq, UInt8.toNat_ofNat', Nat.mod_eq_of_lt (by omega), Int.toNat_of_nonneg hw.1]
  have : ∀ (k : Nat) (l : List Value), l.length = k → (∀ i, i < k → ∃ q : UInt8, l[i]? = some (.int .u8 q.toNat)) → ∃ m : List UInt8, m.length = k ∧ l = bv m := by
    intro k
    induction k with
    | zero => intro l hl _; exact ⟨[], rfl, List.eq_nil_of_length_eq_zero hl⟩
    | succ k ih =>
      intro l hl hq
      match l, hl with
      | y :: l, hl =>
        obtain ⟨q, e0⟩ := hq 0 (by omega)
        obtain ⟨m, h1, h2⟩ := ih l (by simpa using hl) (fun i hik => by simpa using hq (i + 1) (by omega))
        refine ⟨q :: m, by simp [h1], ?_⟩
        have : y = .int .u8 q.toNat := by simpa using e0
        rw [this, h2]
        simp [bv, Lib.byteCells]
  exact this n cs hsz hel
/-- a list of identities among the arguments -/
theorem open_ids {r : Reach} {b0 : Nat} {t u e : TypeId} {v : Value} {d : DataW H} {p : List MemPlace} (ht : P.underlying t = some (.slice u)) (hu : P.underlying u = some (.array 32 e)) (he : P.underlying e = some (.int .u8)) (hce : P.cellsOf e = 1) (hcu : P.cellsOf u = 32)
    (hv : Value.okWide P w r b0 t v) (h : DataW.Trod enc P w base spare held t v d p) : ∃ (zs : List I32) (a : Option Addr) (n cap : Nat), v = .slice a n cap ∧ n = zs.length ∧ n ≤ cap ∧ n ≤ 9223372036854775807 ∧ Ids w.heap.size w v zs := by
  obtain ⟨a, n, cap, rfl⟩ := okWide_slice ht hv
  obtain ⟨fuel, hf⟩ := h
  rcases DataW.trod_slice ht hf with ⟨hcs, _⟩ | ⟨a', len, cap', elems, rest, m, _, hcs, _, hb, hl, hm, hlen, hel, _, _⟩
  · have h1 : Value.slice a n cap = .slice none 0 0 := by simpa [Value.cells] using hcs
    cases h1
    exact ⟨[], none, 0, 0, rfl, rfl, Nat.le_refl _, by omega, .inl ⟨⟨none, 0, rfl⟩, rfl⟩⟩
  · have h1 : Value.slice a n cap = .slice (some a') len cap' := by simpa [Value.cells] using hcs
    cases h1
    have hmx : maxLen ≤ 9223372036854775807 := by decide
    rw [hcu] at hel
    have each : ∀ i, i < n → ∃ x : I32, ∀ j v, (bv x.1)[j]? = some v → w.cell? ((a'.add (i * 32)).add j) = some v := fun i hi => by
      have h2 := hel i hi
      rw [List.getElem?_eq_getElem (by omega)] at h2
      obtain ⟨cs, h3, h4⟩ := Option.bind_eq_some_iff.1 h2
      obtain ⟨l, hl1, rfl⟩ := arr_of_trod hu he hce hcu h4
      obtain ⟨_, hlen3, hcell⟩ := World.cells?_some h3
      refine ⟨⟨l, hl1⟩, fun j v hj => ?_⟩
      have hj' : j < 32 := by
        have := (List.getElem?_eq_some_iff.1 hj).1
        rwa [bv_length, hl1] at this
      rw [hcell j hj']
      exact hj
    have hz : ∀ k, k ≤ n → ∃ zs : List I32, zs.length = k ∧ ∀ i (hi : i < zs.length), ∀ j v, (bv zs[i].1)[j]? = some v → w.cell? ((a'.add (i * 32)).add j) = some v := by
      intro k
      induction k with
      | zero => intro _; exact ⟨[], rfl, fun i hi => by cases hi⟩
      | succ k ih =>
        intro hk
        obtain ⟨zs, h1, h2⟩ := ih (by omega)
        obtain ⟨x, hx⟩ := each k (by omega)
        refine ⟨zs ++ [x], by simp [h1], fun i hi => ?_⟩
        by_cases hik : i < zs.length
        · rw [List.getElem_append_left hik]
          exact h2 i hik
        · have : i = zs.length := by simp at hi; omega
          subst this
          rw [List.getElem_append_right (by omega)]
          simpa [h1] using hx
    obtain ⟨zs, hzl, hzc⟩ := hz n (Nat.le_refl _)
    refine ⟨zs, some a', n, cap, rfl, hzl.symm, hl, by omega, ?_⟩
    by_cases h0 : n = 0
    · subst h0
      exact .inl ⟨⟨some a', cap, rfl⟩, List.eq_nil_of_length_eq_zero hzl⟩
    · have hg := hzc 0 (by omega) 0 (.int .u8 (zs[0].1.getD 0 0).toNat) (bv_get _ _ (by rw [(zs[0]).2]; decide))
      have hspot := World.cell?_spot hg
      obtain ⟨b, off, spot⟩ := a'
      have hsp : spot = none := by
        simp only [Addr.add] at hspot
        split at hspot <;> simp_all
      subst hsp
      refine .inr ⟨b, off, cap, by rw [hzl], ?_, fun j hj i v hv => ?_⟩
      · rw [Addr.add_mid, Addr.add_mid] at hg
        unfold World.cell? at hg
        split at hg
        · rename_i hh
          exact (Array.getElem?_eq_some_iff.1 hh).1
        · cases hg
      · have := hzc j hj i v hv
        rwa [Addr.add_mid, Addr.add_mid] at this
end
end Go.Proofs.XK
