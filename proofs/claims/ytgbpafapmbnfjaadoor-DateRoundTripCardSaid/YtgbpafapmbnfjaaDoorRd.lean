/- read of date, walked -/
import Derived.Test.YtgbpafapmbnfjaaDoorZn
import Derived.Test.YtgbpafapmbnfjaaDoorNm
import Derived.Deep.WholeRow
namespace Go.Proofs
open Go.RowKit Go.Shelf
set_option linter.unusedVariables false
set_option linter.unusedSimpArgs false
namespace TK
def zA : Array Value := #[.bool false, .int .i64 0, .int .i64 0, .int .i64 0, .int .i64 0, .int .i64 0, .int .i64 0, .int .i64 0, .int .i64 0, .int .i64 0, .int .i64 0, .int .i64 0, .int .i64 0, .int .i64 0]
/-- read's state: the scan, its parts, and what came in as it was -/
structure Rd (wp : World) (X RB PB : Nat) (s : ByteArray) (x : Nat × Nat) (A : Array Value) (W : World) : Prop where
  scn : Scn W X s x
  res : W.heap[RB]? = some (.cells zA 63 (0, 0))
  parts : W.heap[PB]? = some (.cells A 63 (0, 0))
  bel : Below wp.heap.size wp W
  lx : wp.heap.size ≤ X
  lp : wp.heap.size ≤ PB
  lr : wp.heap.size ≤ RB
  ne : PB ≠ X
  nr : RB ≠ X
  np : RB ≠ PB
  tabs : Tabs wp
section
variable {wp W W' : World} {X RB PB : Nat} {s : ByteArray} {x x' : Nat × Nat} {A : Array Value}
theorem Rd.call (h : Rd wp X RB PB s x A W) (hg : W.grownBy W' (some X)) (hs : Scn W' X s x') : Rd wp X RB PB s x' A W' :=
  ⟨hs, (hg.block RB (Array.getElem?_eq_some_iff.1 h.res).1 (by simpa using h.nr)).trans h.res, (hg.block PB (Array.getElem?_eq_some_iff.1 h.parts).1 (by simpa using h.ne)).trans h.parts, h.bel.grown hg h.bel.size (fun k hk => by cases hk; exact h.lx), h.lx, h.lp, h.lr, h.ne, h.nr, h.np, h.tabs⟩
theorem Rd.below (h : Rd wp X RB PB s x A W) (hb : Below W.heap.size W W') : Rd wp X RB PB s x A W' := h.call (up hb _) (h.scn.below hb)
theorem Rd.T (h : Rd wp X RB PB s x A W) : Tabs W := h.tabs.below h.bel
theorem Rd.store (h : Rd wp X RB PB s x A W) (k : Nat) (v : Value) : Rd wp X RB PB s x (A.setIfInBounds k v) (W.setCell ⟨PB, k, none⟩ v) := by
  have hg := Lib.grownBy_setCell W PB k v
  refine ⟨h.scn.grown hg (by simpa using Ne.symm h.ne), (hg.block RB (Array.getElem?_eq_some_iff.1 h.res).1 (by simpa using h.np)).trans h.res, ?_, h.bel.setCell h.lp _, h.lx, h.lp, h.lr, h.ne, h.nr, h.np, h.tabs⟩
  have h1 := h.parts
  simp [World.setCell, Array.getElem?_modify, h1]
theorem Rd.bump (h : Rd wp X RB PB s x A W) (m : Nat) (hm : m ≤ s.size) : Rd wp X RB PB s (m, x.2) A (W.setCell ⟨X, 1, none⟩ (.int .i64 (m : Int))) := h.call (Lib.grownBy_setCell _ _ _ _) (h.scn.put1 m hm)
theorem Rd.cell (h : Rd wp X RB PB s x A W) (k : Nat) (v : Value) (hv : A[k]? = some v) : W.cell? ⟨PB, k, none⟩ = some v ∧ W.frozen? ⟨PB, k, none⟩ = false := by
  have h1 := h.parts
  refine ⟨(Go.cell_of_row _ _ _ _ _ _ h1).trans hv, ?_⟩
  simp [World.frozen?, h1]
theorem Rd.fin (h : Rd wp X RB PB s x A W) (v0 v1 v2 v3 v4 v5 v6 v7 v8 v9 v10 v11 v12 v13 : Value) (hA : A = #[v0, v1, v2, v3, v4, v5, v6, v7, v8, v9, v10, v11, v12, v13]) : ((((((((((((((W.setCell ⟨RB, 0, none⟩ v0).setCell ⟨RB, 1, none⟩ v1).setCell ⟨RB, 2, none⟩ v2).setCell ⟨RB, 3, none⟩ v3).setCell ⟨RB, 4, none⟩ v4).setCell ⟨RB, 5, none⟩ v5).setCell ⟨RB, 6, none⟩ v6).setCell ⟨RB, 7, none⟩ v7).setCell ⟨RB, 8, none⟩ v8).setCell ⟨RB, 9, none⟩ v9).setCell ⟨RB, 10, none⟩ v10).setCell ⟨RB, 11, none⟩ v11).setCell ⟨RB, 12, none⟩ v12).setCell ⟨RB, 13, none⟩ v13).heap[RB]? = some (.cells #[v0, v1, v2, v3, v4, v5, v6, v7, v8, v9, v10, v11, v12, v13] 63 (0, 0)) ∧ Scn ((((((((((((((W.setCell ⟨RB, 0, none⟩ v0).setCell ⟨RB, 1, none⟩ v1).setCell ⟨RB, 2, none⟩ v2).setCell ⟨RB, 3, none⟩ v3).setCell ⟨RB, 4, none⟩ v4).setCell ⟨RB, 5, none⟩ v5).setCell ⟨RB, 6, none⟩ v6).setCell ⟨RB, 7, none⟩ v7).setCell ⟨RB, 8, none⟩ v8).setCell ⟨RB, 9, none⟩ v9).setCell ⟨RB, 10, none⟩ v10).setCell ⟨RB, 11, none⟩ v11).setCell ⟨RB, 12, none⟩ v12).setCell ⟨RB, 13, none⟩ v13) X s x ∧ Below wp.heap.size wp ((((((((((((((W.setCell ⟨RB, 0, none⟩ v0).setCell ⟨RB, 1, none⟩ v1).setCell ⟨RB, 2, none⟩ v2).setCell ⟨RB, 3, none⟩ v3).setCell ⟨RB, 4, none⟩ v4).setCell ⟨RB, 5, none⟩ v5).setCell ⟨RB, 6, none⟩ v6).setCell ⟨RB, 7, none⟩ v7).setCell ⟨RB, 8, none⟩ v8).setCell ⟨RB, 9, none⟩ v9).setCell ⟨RB, 10, none⟩ v10).setCell ⟨RB, 11, none⟩ v11).setCell ⟨RB, 12, none⟩ v12).setCell ⟨RB, 13, none⟩ v13) := by
  subst hA
  refine ⟨?_, ?_, ?_⟩
  · have h1 := h.res
    simp [World.setCell, Array.getElem?_modify, h1, zA]
  · refine h.scn.grown (r := some RB) ?_ (by simpa using Ne.symm h.nr)
    iterate 13 refine Lib.grownBy_trans ?_ (Lib.grownBy_setCell _ _ _ _)
    exact Lib.grownBy_setCell _ _ _ _
  · have := h.lr
    iterate 14 refine Below.setCell ?_ this _
    exact h.bel
theorem Rd.rcell (h : Rd wp X RB PB s x A W) (k : Nat) (v : Value) (hv : zA[k]? = some v) : W.cell? ⟨RB, k, none⟩ = some v ∧ W.frozen? ⟨RB, k, none⟩ = false := by
  have h1 := h.res
  refine ⟨(Go.cell_of_row _ _ _ _ _ _ h1).trans hv, ?_⟩
  simp [World.frozen?, h1]
end
theorem cells14 {W : World} {b : Nat} {v0 v1 v2 v3 v4 v5 v6 v7 v8 v9 v10 v11 v12 v13 : Value} {T : TypeId} (h : W.heap[b]? = some (.cells #[v0, v1, v2, v3, v4, v5, v6, v7, v8, v9, v10, v11, v12, v13] T (0, 0))) : W.cell? ⟨b, 0, none⟩ = some v0 ∧ W.cell? ⟨b, 1, none⟩ = some v1 ∧ W.cell? ⟨b, 2, none⟩ = some v2 ∧ W.cell? ⟨b, 3, none⟩ = some v3 ∧ W.cell? ⟨b, 4, none⟩ = some v4 ∧ W.cell? ⟨b, 5, none⟩ = some v5 ∧ W.cell? ⟨b, 6, none⟩ = some v6 ∧ W.cell? ⟨b, 7, none⟩ = some v7 ∧ W.cell? ⟨b, 8, none⟩ = some v8 ∧ W.cell? ⟨b, 9, none⟩ = some v9 ∧ W.cell? ⟨b, 10, none⟩ = some v10 ∧ W.cell? ⟨b, 11, none⟩ = some v11 ∧ W.cell? ⟨b, 12, none⟩ = some v12 ∧ W.cell? ⟨b, 13, none⟩ = some v13 := ⟨Go.cell_of_row _ _ _ _ _ _ h, Go.cell_of_row _ _ _ _ _ _ h, Go.cell_of_row _ _ _ _ _ _ h, Go.cell_of_row _ _ _ _ _ _ h, Go.cell_of_row _ _ _ _ _ _ h, Go.cell_of_row _ _ _ _ _ _ h, Go.cell_of_row _ _ _ _ _ _ h, Go.cell_of_row _ _ _ _ _ _ h, Go.cell_of_row _ _ _ _ _ _ h, Go.cell_of_row _ _ _ _ _ _ h, Go.cell_of_row _ _ _ _ _ _ h, Go.cell_of_row _ _ _ _ _ _ h, Go.cell_of_row _ _ _ _ _ _ h, Go.cell_of_row _ _ _ _ _ _ h⟩
def names (l : List (List UInt8)) : List ByteArray := l.map fun b => ⟨b.toArray⟩
theorem dn_at (k : Nat) (h : k < (names dnl).length) : dnA[k]? = some (.string (names dnl)[k]) := by
  match k, h with
  | 0, _ => rfl
  | 1, _ => rfl
  | 2, _ => rfl
  | 3, _ => rfl
  | 4, _ => rfl
  | 5, _ => rfl
  | 6, _ => rfl
theorem mn_at (k : Nat) (h : k < (names mnl).length) : mnA[k]? = some (.string (names mnl)[k]) := by
  match k, h with
  | 0, _ => rfl
  | 1, _ => rfl
  | 2, _ => rfl
  | 3, _ => rfl
  | 4, _ => rfl
  | 5, _ => rfl
  | 6, _ => rfl
  | 7, _ => rfl
  | 8, _ => rfl
  | 9, _ => rfl
  | 10, _ => rfl
  | 11, _ => rfl
theorem dn_3 : ∀ z ∈ names dnl, z.size ≤ 100 := by decide
theorem mn_3 : ∀ z ∈ names mnl, z.size ≤ 100 := by decide
def z7 : Array Value := #[.string ⟨#[]⟩, .string ⟨#[]⟩, .string ⟨#[]⟩, .string ⟨#[]⟩, .string ⟨#[]⟩, .string ⟨#[]⟩, .string ⟨#[]⟩]
def z12 : Array Value := #[.string ⟨#[]⟩, .string ⟨#[]⟩, .string ⟨#[]⟩, .string ⟨#[]⟩, .string ⟨#[]⟩, .string ⟨#[]⟩, .string ⟨#[]⟩, .string ⟨#[]⟩, .string ⟨#[]⟩, .string ⟨#[]⟩, .string ⟨#[]⟩, .string ⟨#[]⟩]
def isCm (c : Nat) : Bool := decide (c = 44)
def isCo (c : Nat) : Bool := decide (c = 58)
def r0 (s : ByteArray) := sname (names dnl) s (0, 0)
def r0b (s : ByteArray) := stk isCm s (r0 s).1
def r1 (s : ByteArray) : (Nat × Nat) × Nat := if spk isLt s (0, 0) = true then (sbl true s (r0b s), (r0 s).2) else ((0, 0), 0)
def r2 (s : ByteArray) := snum s 1 ((r1 s).1, 0)
def r2b (s : ByteArray) := snum s 1 ((r2 s).1, 0)
def r3 (s : ByteArray) : (Nat × Nat) × Nat := if spk isDg s (r2 s).1 = true then ((r2b s).1, 10 * (r2 s).2 + (r2b s).2) else r2 s
def r4 (s : ByteArray) := sbl false s (r3 s).1
def r5 (s : ByteArray) := sname (names mnl) s (r4 s)
def r6 (s : ByteArray) := sbl false s (r5 s).1
def r7 (s : ByteArray) := snum s 4 (r6 s, 0)
def r8 (s : ByteArray) := sbl false s (r7 s).1
def r9 (s : ByteArray) := snum s 2 (r8 s, 0)
def r10 (s : ByteArray) := stk isCo s (r9 s).1
def r11 (s : ByteArray) := snum s 2 (r10 s, 0)
def r11b (s : ByteArray) := snum s 2 (((r11 s).1.1 + 1, (r11 s).1.2), 0)
def r12 (s : ByteArray) : (Nat × Nat) × Nat × Nat := if spk isCo s (r11 s).1 = true then ((r11b s).1, (r11b s).2, (r11 s).1.1 + 1) else ((r11 s).1, 0, 0)
def r13 (s : ByteArray) := sbl false s (r12 s).1
def r14 (s : ByteArray) : Nat × Nat := if (r13 s).2 = 0 ∧ (r13 s).1 = s.size then ((r13 s).1, 4) else r13 s
def r15 (s : ByteArray) : (Nat × Nat) × Int := if (r14 s).2 = 0 then (sck (r14 s) (decide ((zone (s.extract (r14 s).1 s.size)).2 = 0)) (r14 s).1 (zone (s.extract (r14 s).1 s.size)).2, (zone (s.extract (r14 s).1 s.size)).1) else (r14 s, 0)
end TK
open TK
theorem TK.snum1_bd (s : ByteArray) (x : Nat × Nat) : (snum s 1 (x, 0)).2 ≤ 255 := by
  show 10 * 0 + dgv _ ≤ 255
  unfold dgv
  omega
theorem TK.sname_bd (s : ByteArray) (x : Nat × Nat) (zs : List ByteArray) : (sname zs s x).2 ≤ zs.length := by
  have h := fx_bd (fun a => leq (lo a) (lo (wrd s x.1))) zs 0
  unfold sname snm
  split
  · split
    · simp
    · split
      · simp
      · show (fx _ zs 0).toNat ≤ _
        omega
  · simp
theorem TK.rd_start {wp w : World} {X : Nat} {s : ByteArray} (h0 : Scn w X s (0, 0)) (hb : Below wp.heap.size wp w) (hX : wp.heap.size ≤ X) (hT : Tabs wp) : Rd wp X w.heap.size (w.heap.size + 1) s (0, 0) zA ((w.alloc (.cells zA 63)).alloc (.cells zA 63)) := by
  have hx := (Array.getElem?_eq_some_iff.1 h0.1).1
  have e1 : (w.alloc (.cells zA 63)).heap.size = w.heap.size + 1 := by simp
  have b1 : Below w.heap.size w (w.alloc (.cells zA 63)) := (Below.refl _ _).alloc (Nat.le_refl _) _
  have b2 := (Below.refl (w.alloc (.cells zA 63)).heap.size (w.alloc (.cells zA 63))).alloc (Nat.le_refl _) (.cells zA 63)
  refine ⟨(h0.below b1).below b2, (b2.block _ (by omega)).trans (Go.heap_alloc_new w _), ?_, hb.trans ((b1.trans (b2.mono (by omega))).mono hb.size), hX, by have := hb.size; omega, hb.size, by omega, by omega, by omega, hT⟩
  have h := Go.heap_alloc_new (w.alloc (.cells zA 63)) (.cells zA 63)
  rw [e1] at h
  exact h
def TK.rv (s : ByteArray) : Value := .agg #[.bool (spk isLt s (0, 0)), .int .i64 ((r1 s).2 : Int), .int .i64 ((r7 s).2 : Int), .int .i64 (1 + ((r5 s).2 : Int)), .int .i64 ((r3 s).2 : Int), .int .i64 ((r9 s).2 : Int), .int .i64 ((r11 s).2 : Int), .int .i64 ((r12 s).2.1 : Int), .int .i64 (((r1 s).1.1 : Nat) : Int), .int .i64 (((r6 s).1 : Nat) : Int), .int .i64 (((r8 s).1 : Nat) : Int), .int .i64 (((r10 s).1 : Nat) : Int), .int .i64 ((r12 s).2.2 : Int), .int .i64 (r15 s).2]
end Go.Proofs
