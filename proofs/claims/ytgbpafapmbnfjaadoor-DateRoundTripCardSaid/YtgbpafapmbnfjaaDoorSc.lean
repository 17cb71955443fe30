/- the scan of date: its methods -/
import Derived.Test.YtgbpafapmbnfjaaDoorNm
import Derived.Test.YtgbpafapmbnfjaaDoorTQ
import Derived.Great.Walk
import Derived.Lib.BufferOwn
namespace Go.Proofs
open Go.RowKit Go.Shelf
set_option linter.unusedVariables false
set_option linter.unusedSimpArgs false
namespace TK
/-- the scan in block X: its place and its error -/
def Scn (W : World) (X : Nat) (s : ByteArray) (x : Nat × Nat) : Prop := W.heap[X]? = some (.cells #[.string s, .int .i64 (x.1 : Int), .int .i64 (x.2 : Int)] 61 (0, 0)) ∧ x.1 ≤ s.size ∧ s.size ≤ 64
theorem Scn.c {W : World} {X : Nat} {s : ByteArray} {x : Nat × Nat} (h : Scn W X s x) : W.cell? ⟨X, 0, none⟩ = some (.string s) ∧ W.cell? ⟨X, 1, none⟩ = some (.int .i64 (x.1 : Int)) ∧ W.cell? ⟨X, 2, none⟩ = some (.int .i64 (x.2 : Int)) ∧ W.frozen? ⟨X, 0, none⟩ = false ∧ W.frozen? ⟨X, 1, none⟩ = false ∧ W.frozen? ⟨X, 2, none⟩ = false := by
  have h := h.1
  simp [World.cell?, World.frozen?, h]
theorem Scn.put1 {W : World} {X : Nat} {s : ByteArray} {x : Nat × Nat} (h : Scn W X s x) (m : Nat) (hm : m ≤ s.size) : Scn (W.setCell ⟨X, 1, none⟩ (.int .i64 (m : Int))) X s (m, x.2) := by
  have h1 := h.1
  refine ⟨?_, hm, h.2.2⟩
  simp [World.setCell, Array.getElem?_modify, h1]
theorem Scn.put2 {W : World} {X : Nat} {s : ByteArray} {x : Nat × Nat} (h : Scn W X s x) (m : Nat) : Scn (W.setCell ⟨X, 2, none⟩ (.int .i64 (m : Int))) X s (x.1, m) := by
  have h1 := h.1
  refine ⟨?_, h.2.1, h.2.2⟩
  simp [World.setCell, Array.getElem?_modify, h1]
theorem Scn.grown {W W' : World} {X : Nat} {s : ByteArray} {x : Nat × Nat} (h : Scn W X s x) {r : Option Nat} (hg : W.grownBy W' r) (hr : some X ≠ r) : Scn W' X s x :=
  ⟨(hg.block X (Array.getElem?_eq_some_iff.1 h.1).1 hr).trans h.1, h.2⟩
theorem Scn.below {W W' : World} {X : Nat} {s : ByteArray} {x : Nat × Nat} (h : Scn W X s x) (hg : Below W.heap.size W W') : Scn W' X s x :=
  ⟨(hg.block X (Array.getElem?_eq_some_iff.1 h.1).1).trans h.1, h.2⟩
/-- an error, unless there is one -/
def sf (x : Nat × Nat) (m f : Nat) : Nat × Nat := if x.2 = 0 then (m, f) else x
def sck (x : Nat × Nat) (b : Bool) (m f : Nat) : Nat × Nat := if b = true then x else sf x m f
def bt (s : ByteArray) (n : Nat) : Nat := (s.data.toList.getD n 0).toNat
/-- a byte with a property -/
def stk (P : Nat → Bool) (s : ByteArray) (x : Nat × Nat) : Nat × Nat := if x.2 = 0 then (if x.1 = s.size then (x.1, 4) else if P (bt s x.1) = true then (x.1 + 1, 0) else (x.1, 3)) else x
def sby (P : Nat → Bool) (s : ByteArray) (x : Nat × Nat) : Nat := if x.2 = 0 then (if x.1 = s.size then 0 else if P (bt s x.1) = true then bt s x.1 else 0) else 0
def spk (P : Nat → Bool) (s : ByteArray) (x : Nat × Nat) : Bool := decide (x.2 = 0) && decide (x.1 < s.size) && P (bt s x.1)
theorem up {w W : World} (h : Below w.heap.size w W) (r : Option Nat) : w.grownBy W r := ⟨h.os, h.tape, h.output, h.size, fun k hk _ => h.block k hk⟩
theorem bt_eq (s : ByteArray) (n : Nat) (h : n < s.size) : bt s n = (s[n]'h).toNat := by
  have h1 : n < s.data.toList.length := by simpa using h
  have h2 : s.data.toList.getD n 0 = s.data.toList[n] := by rw [List.getD, List.getElem?_eq_getElem h1]; rfl
  unfold bt
  rw [h2]
  simp [ByteArray.getElem_eq_getElem_data]
def ldx (o : Oper) : Operand := match o.op with
  | .load _ x => x
  | _ => .const (.bool false)
theorem q_lds2 {P : Program} {T : TypeId} {ops : Array Oper} {rest : List Oper} {o : Oper} {a : Act} {C : World → Prop} {Q : Act → Prop} (hA : ∀ w, (isAgg T).run P w = .ok false w) (ho : o.op = .load T (ldx o)) (hw : Region.wanted o (yielded ops a.tmps) = true) (p : Addr) (hx : a.eval (ldx o) = .pointer (some p)) (v : Value) (hc : ∀ w, C w → w.cell? p = some v)
    (h : wpQuiet P ops C Q rest (a.put o.dst v)) : wpQuiet P ops C Q (o :: rest) a := q_lds hA (ldx o) ho hw p hx v hc h
end TK
open TK
set_option maxRecDepth 100000 in
theorem Tryd.dDigit (c : Int) (w : World) : Calls Tryd.prog 53 #[.int .u8 c] w fun e w' => e = .returned (.bool (decide (48 ≤ c) && decide (c ≤ 57))) ∧ w' = w := by
  by_cases h1 : 48 ≤ c
  · have b1 : decide (48 ≤ c) = true := decide_eq_true h1
    rw [b1]
    go_enter Tryd.func53, Tryd.ntmps53
    go_wp2
    go_ret
    exact ⟨by simp, rfl⟩
  · have b1 : decide (48 ≤ c) = false := decide_eq_false h1
    rw [b1]
    go_enter Tryd.func53, Tryd.ntmps53
    go_wp2
    go_ret
    exact ⟨by simp, rfl⟩
theorem Tryd.dBlank (c : Int) (w : World) : Calls Tryd.prog 66 #[.int .u8 c] w fun e w' => e = .returned (.bool (decide (c = 32) || decide (c = 9))) ∧ w' = w := by
  by_cases h1 : c = 32
  · subst h1
    go_enter Tryd.func66, Tryd.ntmps66
    go_wp2
    go_ret
    exact ⟨by simp, rfl⟩
  · have b1 : decide (c = 32) = false := decide_eq_false h1
    rw [b1]
    go_enter Tryd.func66, Tryd.ntmps66
    go_wp2
    go_ret
    exact ⟨by simp [h1, BEq.beq], rfl⟩
theorem Tryd.dFail (X : Nat) (s : ByteArray) (x : Nat × Nat) (m f : Nat) (w : World) (h0 : Scn w X s x) (hm : m ≤ s.size) : Calls Tryd.prog 54 #[.pointer (some ⟨X, 0, none⟩), .int .i64 (m : Int), .int .i64 (f : Int)] w fun z w' => z = .returned (.tuple #[]) ∧ w.grownBy w' (some X) ∧ Scn w' X s (sf x m f) := by
  obtain ⟨c0, c1, c2, c3, c4, c5⟩ := h0.c
  have hh := Lib.hid h0
  clear h0
  obtain ⟨n, e⟩ := x
  dsimp only at c1 c2
  by_cases he : e = 0
  · have hf : Hid (sf (n, e) m f = (m, f)) := Lib.hid (if_pos he)
    subst he
    go_enter Tryd.func54, Tryd.ntmps54
    go_wp2
    refine Great.bodyPost_end0 rfl rfl ?_
    exact ⟨rfl, Lib.grownBy_trans (Lib.grownBy_setCell _ _ _ _) (Lib.grownBy_setCell _ _ _ _), by rw [hf.out]; exact (hh.out.put1 m hm).put2 f⟩
  · have hf : Hid (sf (n, e) m f = (n, e)) := Lib.hid (if_neg he)
    go_enter Tryd.func54, Tryd.ntmps54
    go_wp2
    refine Great.bodyPost_end0 rfl rfl ?_
    exact ⟨rfl, World.grownBy.refl _ _, by rw [hf.out]; exact hh.out⟩
set_option maxRecDepth 100000 in
theorem Tryd.dCheck (X : Nat) (s : ByteArray) (x : Nat × Nat) (b : Bool) (m f : Nat) (w : World) (h0 : Scn w X s x) (hm : m ≤ s.size) : Calls Tryd.prog 39 #[.pointer (some ⟨X, 0, none⟩), .bool b, .int .i64 (m : Int), .int .i64 (f : Int)] w fun z w' => z = .returned (.tuple #[]) ∧ w.grownBy w' (some X) ∧ Scn w' X s (sck x b m f) := by
  have hh := Lib.hid h0
  have hc := Lib.hid (Tryd.dFail X s x m f w h0 hm)
  clear h0
  cases b
  · have hf : Hid (sck x false m f = sf x m f) := Lib.hid (if_neg (by decide))
    go_enter Tryd.func39, Tryd.ntmps39
    go_wp2_with (go_at_call 54; refine (hc.out).mono ?_; rintro e w' ⟨rfl, hg, hs⟩)
    refine Great.bodyPost_end0 rfl rfl ?_
    exact ⟨rfl, hg, by rw [hf.out]; exact hs⟩
  · have hf : Hid (sck x true m f = x) := Lib.hid (if_pos rfl)
    go_enter Tryd.func39, Tryd.ntmps39
    go_wp2_with fail
    refine Great.bodyPost_end0 rfl rfl ?_
    exact ⟨rfl, World.grownBy.refl _ _, by rw [hf.out]; exact hh.out⟩
set_option maxRecDepth 100000 in
set_option maxHeartbeats 1000000 in
theorem Tryd.dPeek (f : FuncId) (A : Array Value) (P : Nat → Bool) (X : Nat) (s : ByteArray) (x : Nat × Nat) (w : World) (hcf : ∀ args w, (callFunc f args).run Tryd.prog w = .ok (.enter f args) w) (hP : ∀ W, Below w.heap.size w W → ∀ c : Nat, Calls Tryd.prog f (#[.int .u8 (c : Int)] ++ A) W fun x w' => x = .returned (.bool (P c)) ∧ w' = W) (h0 : Scn w X s x) : Calls Tryd.prog 46 #[.pointer (some ⟨X, 0, none⟩), .func (.func f) #[] A] w fun z w' => z = .returned (.bool (spk P s x)) ∧ Below w.heap.size w w' := by
  obtain ⟨n, e⟩ := x
  obtain ⟨C, q1, q2, q3⟩ : ∃ C : World → Prop, C { w with drawn := w.drawn + 1 } ∧ (∀ W, C W → Below w.heap.size w W) ∧ (∀ W W', C W → Below W.heap.size W W' → C W') :=
    ⟨fun W => Below w.heap.size w W, (Below.refl _ _).drew, fun W h => h, fun W W' h hb => h.trans (hb.mono h.size)⟩
  have k0 : Hid (∀ W, C W → W.cell? ⟨X, 0, none⟩ = some (.string s)) := Lib.hid (fun W hW => (h0.below (q2 W hW)).c.1)
  have k1 : Hid (∀ W, C W → W.cell? ⟨X, 1, none⟩ = some (.int .i64 (n : Int))) := Lib.hid (fun W hW => (h0.below (q2 W hW)).c.2.1)
  have k2 : Hid (∀ W, C W → W.cell? ⟨X, 2, none⟩ = some (.int .i64 (e : Int))) := Lib.hid (fun W hW => (h0.below (q2 W hW)).c.2.2.1)
  have hHP : Hid (∀ W, C W → Calls Tryd.prog f (#[.int .u8 (bt s n : Int)] ++ A) W fun x w' => x = .returned (.bool (P (bt s n))) ∧ C w') := Lib.hid fun W hW => (hP W (q2 W hW) _).mono fun e w' h => ⟨h.1, by rw [h.2]; exact hW⟩
  have hC1 := Lib.hid q1
  have hCV := Lib.hid q2
  clear h0 hP q1 q2 q3
  by_cases he : e = 0
  · subst he
    by_cases hn : n < s.size
    · have hf : Hid (spk P s (n, 0) = P (bt s n)) := Lib.hid (by simp [spk, hn])
      have hH2 : Hid (∀ W, C W → Calls Tryd.prog f (#[.int .u8 ((s[n]'hn).toNat : Int)] ++ A) W fun x w' => x = .returned (.bool (P (bt s n))) ∧ C w') := by rw [← bt_eq s n hn]; exact hHP
      go_enter Tryd.func46, Tryd.ntmps46
      go_wp2_with fail
      refine q_region C (by kernel_rfl) (by kernel_rfl) hC1.out ?_
      repeat (first
        | (with_reducible refine q_off ?_ ?_
           · rfl
           try simp only [Act.put, List.getElem_toArray, List.getElem_cons_zero, List.getElem_cons_succ, List.setIfInBounds_toArray, List.set_cons_zero, List.set_cons_succ])
        | (with_reducible refine q_lds2 Tryd.isAgg9 ?_ ?_ ⟨X, 0, none⟩ ?_ (.string s) k0.out ?_
           · rfl
           · rfl
           · rfl
           try simp only [Act.put, List.getElem_toArray, List.getElem_cons_zero, List.getElem_cons_succ, List.setIfInBounds_toArray, List.set_cons_zero, List.set_cons_succ])
        | (with_reducible refine q_lds2 Tryd.isAgg3 ?_ ?_ ⟨X, 1, none⟩ ?_ (.int .i64 (n : Int)) k1.out ?_
           · rfl
           · rfl
           · rfl
           try simp only [Act.put, List.getElem_toArray, List.getElem_cons_zero, List.getElem_cons_succ, List.setIfInBounds_toArray, List.set_cons_zero, List.set_cons_succ])
        | (with_reducible refine q_lds2 Tryd.isAgg25 ?_ ?_ ⟨X, 2, none⟩ ?_ (.int .i64 ((0 : Nat) : Int)) k2.out ?_
           · rfl
           · rfl
           · rfl
           try simp only [Act.put, List.getElem_toArray, List.getElem_cons_zero, List.getElem_cons_succ, List.setIfInBounds_toArray, List.set_cons_zero, List.set_cons_succ])
        | (with_reducible refine wpQuiet_step ?_
           intro K hK
           go_simp
           first
           | (refine hK _ ?_; clear hK K)
           | (apply Exists.intro
              refine ⟨fun W hW => ?_, hK _ ?_⟩
              first
              | exact rfl
              | exact ⟨rfl, rfl⟩
              | (with_reducible exact hH2.out W hW)
              clear hK K)))
      refine wpQuiet_nil ?_
      intro V1 hV1
      have hb := hCV.out V1 hV1
      go_wp2_with fail
      go_ret
      exact ⟨by rw [hf.out]; rfl, hb⟩
    · have hf : Hid (spk P s (n, 0) = false) := Lib.hid (by simp [spk, hn])
      go_enter Tryd.func46, Tryd.ntmps46
      go_wp2_with fail
      refine q_region C (by kernel_rfl) (by kernel_rfl) hC1.out ?_
      repeat (first
        | (with_reducible refine q_off ?_ ?_
           · rfl
           try simp only [Act.put, List.getElem_toArray, List.getElem_cons_zero, List.getElem_cons_succ, List.setIfInBounds_toArray, List.set_cons_zero, List.set_cons_succ])
        | (with_reducible refine q_lds2 Tryd.isAgg9 ?_ ?_ ⟨X, 0, none⟩ ?_ (.string s) k0.out ?_
           · rfl
           · rfl
           · rfl
           try simp only [Act.put, List.getElem_toArray, List.getElem_cons_zero, List.getElem_cons_succ, List.setIfInBounds_toArray, List.set_cons_zero, List.set_cons_succ])
        | (with_reducible refine q_lds2 Tryd.isAgg3 ?_ ?_ ⟨X, 1, none⟩ ?_ (.int .i64 (n : Int)) k1.out ?_
           · rfl
           · rfl
           · rfl
           try simp only [Act.put, List.getElem_toArray, List.getElem_cons_zero, List.getElem_cons_succ, List.setIfInBounds_toArray, List.set_cons_zero, List.set_cons_succ])
        | (with_reducible refine q_lds2 Tryd.isAgg25 ?_ ?_ ⟨X, 2, none⟩ ?_ (.int .i64 ((0 : Nat) : Int)) k2.out ?_
           · rfl
           · rfl
           · rfl
           try simp only [Act.put, List.getElem_toArray, List.getElem_cons_zero, List.getElem_cons_succ, List.setIfInBounds_toArray, List.set_cons_zero, List.set_cons_succ])
        | (with_reducible refine wpQuiet_step ?_
           intro K hK
           go_simp
           first
           | (refine hK _ ?_; clear hK K)
           | (apply Exists.intro
              refine ⟨fun W hW => ?_, hK _ ?_⟩
              first
              | exact rfl
              | exact ⟨rfl, rfl⟩
              | (with_reducible exact hHP.out W hW)
              clear hK K)))
      refine wpQuiet_nil ?_
      intro V1 hV1
      have hb := hCV.out V1 hV1
      go_wp2_with fail
      go_ret
      exact ⟨by rw [hf.out]; rfl, hb⟩
  · have hf : Hid (spk P s (n, e) = false) := Lib.hid (by simp [spk, he])
    go_enter Tryd.func46, Tryd.ntmps46
    go_wp2_with fail
    refine q_region C (by kernel_rfl) (by kernel_rfl) hC1.out ?_
    repeat (first
      | (with_reducible refine q_off ?_ ?_
         · rfl
         try simp only [Act.put, List.getElem_toArray, List.getElem_cons_zero, List.getElem_cons_succ, List.setIfInBounds_toArray, List.set_cons_zero, List.set_cons_succ])
      | (with_reducible refine q_lds2 Tryd.isAgg9 ?_ ?_ ⟨X, 0, none⟩ ?_ (.string s) k0.out ?_
         · rfl
         · rfl
         · rfl
         try simp only [Act.put, List.getElem_toArray, List.getElem_cons_zero, List.getElem_cons_succ, List.setIfInBounds_toArray, List.set_cons_zero, List.set_cons_succ])
      | (with_reducible refine q_lds2 Tryd.isAgg3 ?_ ?_ ⟨X, 1, none⟩ ?_ (.int .i64 (n : Int)) k1.out ?_
         · rfl
         · rfl
         · rfl
         try simp only [Act.put, List.getElem_toArray, List.getElem_cons_zero, List.getElem_cons_succ, List.setIfInBounds_toArray, List.set_cons_zero, List.set_cons_succ])
      | (with_reducible refine q_lds2 Tryd.isAgg25 ?_ ?_ ⟨X, 2, none⟩ ?_ (.int .i64 (e : Int)) k2.out ?_
         · rfl
         · rfl
         · rfl
         try simp only [Act.put, List.getElem_toArray, List.getElem_cons_zero, List.getElem_cons_succ, List.setIfInBounds_toArray, List.set_cons_zero, List.set_cons_succ])
      | (with_reducible refine wpQuiet_step ?_
         intro K hK
         go_simp
         first
         | (refine hK _ ?_; clear hK K)
         | (apply Exists.intro
            refine ⟨fun W hW => ?_, hK _ ?_⟩
            first
            | exact rfl
            | exact ⟨rfl, rfl⟩
            | (with_reducible exact hHP.out W hW)
            clear hK K)))
    refine wpQuiet_nil ?_
    intro V1 hV1
    have hb := hCV.out V1 hV1
    go_wp2_with fail
    go_ret
    exact ⟨by rw [hf.out]; rfl, hb⟩
set_option maxRecDepth 100000 in
set_option maxHeartbeats 1000000 in
theorem Tryd.dTake (f : FuncId) (A : Array Value) (P : Nat → Bool) (X : Nat) (s : ByteArray) (x : Nat × Nat) (w : World) (hcf : ∀ args w, (callFunc f args).run Tryd.prog w = .ok (.enter f args) w) (hP : ∀ W, Below w.heap.size w W → ∀ c : Nat, Calls Tryd.prog f (#[.int .u8 (c : Int)] ++ A) W fun x w' => x = .returned (.bool (P c)) ∧ w' = W) (h0 : Scn w X s x) : Calls Tryd.prog 49 #[.pointer (some ⟨X, 0, none⟩), .func (.func f) #[] A] w fun z w' => z = .returned (.int .u8 (sby P s x : Int)) ∧ w.grownBy w' (some X) ∧ Scn w' X s (stk P s x) := by
  obtain ⟨n, e⟩ := x
  obtain ⟨c0, c1, c2, c3, c4, c5⟩ := h0.c
  have hh := Lib.hid h0
  have hns : n ≤ s.size := h0.2.1
  have hs64 : s.size ≤ 64 := h0.2.2
  dsimp only at c1 c2
  by_cases he : e = 0
  · subst he
    obtain ⟨C, q1, q2, q3, q4⟩ : ∃ C : World → Prop, C w ∧ (∀ W, C W → Below w.heap.size w W) ∧ (∀ W W', C W → Below W.heap.size W W' → C W') ∧ (∀ W, C W → C { W with drawn := W.drawn + 1 }) :=
      ⟨fun W => Below w.heap.size w W, (Below.refl _ _), fun W h => h, fun W W' h hb => h.trans (hb.mono h.size), fun W h => h.drew⟩
    have k0 : Hid (∀ W, C W → W.cell? ⟨X, 0, none⟩ = some (.string s)) := Lib.hid (fun W hW => (h0.below (q2 W hW)).c.1)
    have k1 : Hid (∀ W, C W → W.cell? ⟨X, 1, none⟩ = some (.int .i64 (n : Int))) := Lib.hid (fun W hW => (h0.below (q2 W hW)).c.2.1)
    have hC1 := Lib.hid q1
    have hCV := Lib.hid q2
    have hCd := Lib.hid q4
    by_cases hn : n < s.size
    · have hne : ¬ n = s.size := by omega
      have bne : ((n : Int) == (s.size : Int)) = false := by simp; omega
      have hH2 : Hid (∀ W, C W → Calls Tryd.prog f (#[.int .u8 ((s[n]'hn).toNat : Int)] ++ A) W fun x w' => x = .returned (.bool (P (bt s n))) ∧ C w') := by rw [← bt_eq s n hn]; exact Lib.hid fun W hW => (hP W (q2 W hW) _).mono fun e w' h => ⟨h.1, by rw [h.2]; exact hW⟩
      clear h0 hP q1 q2 q3 q4
      have hbe := Lib.hid (bt_eq s n hn)
      cases hPb : P (bt s n)
      · have hf : Hid (stk P s (n, 0) = (n, 3)) := Lib.hid (by simp [stk, hne, hPb])
        have hv : Hid (sby P s (n, 0) = 0) := Lib.hid (by simp [sby, hne, hPb])
        rw [hPb] at hH2
        clear hPb
        go_enter Tryd.func49, Tryd.ntmps49
        go_wp2_with fail
        refine q_region C (by kernel_rfl) (by kernel_rfl) (hCd.out _ hC1.out) ?_
        repeat (first
          | (with_reducible refine q_off ?_ ?_
             · rfl
             try simp only [Act.put, List.getElem_toArray, List.getElem_cons_zero, List.getElem_cons_succ, List.setIfInBounds_toArray, List.set_cons_zero, List.set_cons_succ])
          | (with_reducible refine q_lds2 Tryd.isAgg9 ?_ ?_ ⟨X, 0, none⟩ ?_ (.string s) k0.out ?_
             · rfl
             · rfl
             · rfl
             try simp only [Act.put, List.getElem_toArray, List.getElem_cons_zero, List.getElem_cons_succ, List.setIfInBounds_toArray, List.set_cons_zero, List.set_cons_succ])
          | (with_reducible refine q_lds2 Tryd.isAgg3 ?_ ?_ ⟨X, 1, none⟩ ?_ (.int .i64 (n : Int)) k1.out ?_
             · rfl
             · rfl
             · rfl
             try simp only [Act.put, List.getElem_toArray, List.getElem_cons_zero, List.getElem_cons_succ, List.setIfInBounds_toArray, List.set_cons_zero, List.set_cons_succ])
          | (with_reducible refine wpQuiet_step ?_
             intro K hK
             go_simp
             first
             | (refine hK _ ?_; clear hK K)
             | (apply Exists.intro
                refine ⟨fun W hW => ?_, hK _ ?_⟩
                first
                | exact rfl
                | exact ⟨rfl, rfl⟩
                | (with_reducible exact hH2.out W hW)
                clear hK K)))
        refine wpQuiet_nil ?_
        intro V1 hV1
        go_wp2_with fail
        refine q_region C (by kernel_rfl) (by kernel_rfl) (hCd.out _ hV1) ?_
        repeat (first
          | (with_reducible refine q_off ?_ ?_
             · rfl
             try simp only [Act.put, List.getElem_toArray, List.getElem_cons_zero, List.getElem_cons_succ, List.setIfInBounds_toArray, List.set_cons_zero, List.set_cons_succ])
          | (with_reducible refine q_lds2 Tryd.isAgg9 ?_ ?_ ⟨X, 0, none⟩ ?_ (.string s) k0.out ?_
             · rfl
             · rfl
             · rfl
             try simp only [Act.put, List.getElem_toArray, List.getElem_cons_zero, List.getElem_cons_succ, List.setIfInBounds_toArray, List.set_cons_zero, List.set_cons_succ])
          | (with_reducible refine q_lds2 Tryd.isAgg3 ?_ ?_ ⟨X, 1, none⟩ ?_ (.int .i64 (n : Int)) k1.out ?_
             · rfl
             · rfl
             · rfl
             try simp only [Act.put, List.getElem_toArray, List.getElem_cons_zero, List.getElem_cons_succ, List.setIfInBounds_toArray, List.set_cons_zero, List.set_cons_succ])
          | (with_reducible refine wpQuiet_step ?_
             intro K hK
             go_simp
             first
             | (refine hK _ ?_; clear hK K)
             | (apply Exists.intro
                refine ⟨fun W hW => ?_, hK _ ?_⟩
                first
                | exact rfl
                | exact ⟨rfl, rfl⟩
                | (with_reducible exact hH2.out W hW)
                clear hK K)))
        refine wpQuiet_nil ?_
        intro V2 hV2
        have hb := hCV.out V2 hV2
        have hs1 := hh.out.below hb
        have hc := Lib.hid (Tryd.dFail X s (n, 0) n 3 V2 hs1 hns)
        have hb1 := Lib.hid hb
        obtain ⟨b0, b1, b2, b3, b4, b5⟩ := hs1.c
        dsimp only at b1 b2
        clear hb hs1 c0 c1 c2 c3 c4 c5
        go_wp2_with (go_at_call 54; refine (hc.out).mono ?_; rintro e w' ⟨rfl, hg, hs⟩)
        go_ret
        exact ⟨by rw [hv.out]; rfl, Lib.grownBy_trans (up hb1.out _) hg, by rw [hf.out]; exact hs⟩
      · have hf : Hid (stk P s (n, 0) = (n + 1, 0)) := Lib.hid (by simp [stk, hne, hPb])
        have hv : Hid (sby P s (n, 0) = bt s n) := Lib.hid (by simp [sby, hne, hPb])
        rw [hPb] at hH2
        clear hPb
        go_enter Tryd.func49, Tryd.ntmps49
        go_wp2_with fail
        refine q_region C (by kernel_rfl) (by kernel_rfl) (hCd.out _ hC1.out) ?_
        repeat (first
          | (with_reducible refine q_off ?_ ?_
             · rfl
             try simp only [Act.put, List.getElem_toArray, List.getElem_cons_zero, List.getElem_cons_succ, List.setIfInBounds_toArray, List.set_cons_zero, List.set_cons_succ])
          | (with_reducible refine q_lds2 Tryd.isAgg9 ?_ ?_ ⟨X, 0, none⟩ ?_ (.string s) k0.out ?_
             · rfl
             · rfl
             · rfl
             try simp only [Act.put, List.getElem_toArray, List.getElem_cons_zero, List.getElem_cons_succ, List.setIfInBounds_toArray, List.set_cons_zero, List.set_cons_succ])
          | (with_reducible refine q_lds2 Tryd.isAgg3 ?_ ?_ ⟨X, 1, none⟩ ?_ (.int .i64 (n : Int)) k1.out ?_
             · rfl
             · rfl
             · rfl
             try simp only [Act.put, List.getElem_toArray, List.getElem_cons_zero, List.getElem_cons_succ, List.setIfInBounds_toArray, List.set_cons_zero, List.set_cons_succ])
          | (with_reducible refine wpQuiet_step ?_
             intro K hK
             go_simp
             first
             | (refine hK _ ?_; clear hK K)
             | (apply Exists.intro
                refine ⟨fun W hW => ?_, hK _ ?_⟩
                first
                | exact rfl
                | exact ⟨rfl, rfl⟩
                | (with_reducible exact hH2.out W hW)
                clear hK K)))
        refine wpQuiet_nil ?_
        intro V1 hV1
        go_wp2_with fail
        refine q_region C (by kernel_rfl) (by kernel_rfl) (hCd.out _ hV1) ?_
        repeat (first
          | (with_reducible refine q_off ?_ ?_
             · rfl
             try simp only [Act.put, List.getElem_toArray, List.getElem_cons_zero, List.getElem_cons_succ, List.setIfInBounds_toArray, List.set_cons_zero, List.set_cons_succ])
          | (with_reducible refine q_lds2 Tryd.isAgg9 ?_ ?_ ⟨X, 0, none⟩ ?_ (.string s) k0.out ?_
             · rfl
             · rfl
             · rfl
             try simp only [Act.put, List.getElem_toArray, List.getElem_cons_zero, List.getElem_cons_succ, List.setIfInBounds_toArray, List.set_cons_zero, List.set_cons_succ])
          | (with_reducible refine q_lds2 Tryd.isAgg3 ?_ ?_ ⟨X, 1, none⟩ ?_ (.int .i64 (n : Int)) k1.out ?_
             · rfl
             · rfl
             · rfl
             try simp only [Act.put, List.getElem_toArray, List.getElem_cons_zero, List.getElem_cons_succ, List.setIfInBounds_toArray, List.set_cons_zero, List.set_cons_succ])
          | (with_reducible refine wpQuiet_step ?_
             intro K hK
             go_simp
             first
             | (refine hK _ ?_; clear hK K)
             | (apply Exists.intro
                refine ⟨fun W hW => ?_, hK _ ?_⟩
                first
                | exact rfl
                | exact ⟨rfl, rfl⟩
                | (with_reducible exact hH2.out W hW)
                clear hK K)))
        refine wpQuiet_nil ?_
        intro V2 hV2
        have hb := hCV.out V2 hV2
        have hs1 := hh.out.below hb
        have hb1 := Lib.hid hb
        obtain ⟨b0, b1, b2, b3, b4, b5⟩ := hs1.c
        dsimp only at b1 b2
        clear hb c0 c1 c2 c3 c4 c5
        go_wp2_with fail
        have hV3 : Scn (V2.setCell ⟨X, 1, none⟩ (.int .i64 ((n : Int) + 1))) X s (n + 1, 0) := hs1.put1 (n + 1) (by omega)
        have hG3 : w.grownBy (V2.setCell ⟨X, 1, none⟩ (.int .i64 ((n : Int) + 1))) (some X) := Lib.grownBy_trans (up hb1.out _) (Lib.grownBy_setCell _ _ _ _)
        generalize V2.setCell ⟨X, 1, none⟩ (.int .i64 ((n : Int) + 1)) = V3 at hV3 hG3 ⊢
        have hHV3 := Lib.hid hV3
        have hHG3 := Lib.hid hG3
        obtain ⟨D, q1, q2⟩ : ∃ D : World → Prop, D { V3 with drawn := V3.drawn + 1 } ∧ (∀ W, D W → Below V3.heap.size V3 W) := ⟨fun W => Below V3.heap.size V3 W, (Below.refl _ _).drew, fun W h => h⟩
        have m0 : Hid (∀ W, D W → W.cell? ⟨X, 0, none⟩ = some (.string s)) := Lib.hid (fun W hW => (hV3.below (q2 W hW)).c.1)
        have m1 : Hid (∀ W, D W → W.cell? ⟨X, 1, none⟩ = some (.int .i64 ((n : Int) + 1))) := Lib.hid (fun W hW => (hV3.below (q2 W hW)).c.2.1)
        have hD1 := Lib.hid q1
        have hD2 := Lib.hid q2
        have w1 : IntKind.i64.wrap (n : Int) = n := IntWalk.i64_in _ (by omega)
        have w2 : IntKind.i64.wrap ((n : Int) + 1 - 1) = n := by rw [show (n : Int) + 1 - 1 = n by omega]; exact w1
        clear hV3 hG3 q1 q2 hs1 b0 b1 b2 b3 b4 b5
        refine q_region D (by kernel_rfl) (by kernel_rfl) hD1.out ?_
        repeat (first
          | (with_reducible refine q_off ?_ ?_
             · rfl
             try simp only [Act.put, List.getElem_toArray, List.getElem_cons_zero, List.getElem_cons_succ, List.setIfInBounds_toArray, List.set_cons_zero, List.set_cons_succ])
          | (with_reducible refine q_lds2 Tryd.isAgg9 ?_ ?_ ⟨X, 0, none⟩ ?_ (.string s) m0.out ?_
             · rfl
             · rfl
             · rfl
             try simp only [Act.put, List.getElem_toArray, List.getElem_cons_zero, List.getElem_cons_succ, List.setIfInBounds_toArray, List.set_cons_zero, List.set_cons_succ])
          | (with_reducible refine q_lds2 Tryd.isAgg3 ?_ ?_ ⟨X, 1, none⟩ ?_ (.int .i64 ((n : Int) + 1)) m1.out ?_
             · rfl
             · rfl
             · rfl
             try simp only [Act.put, List.getElem_toArray, List.getElem_cons_zero, List.getElem_cons_succ, List.setIfInBounds_toArray, List.set_cons_zero, List.set_cons_succ])
          | (with_reducible refine wpQuiet_step ?_
             intro K hK
             go_simp
             first
             | (refine hK _ ?_; clear hK K)
             | (apply Exists.intro
                refine ⟨fun W hW => ?_, hK _ ?_⟩
                first
                | exact rfl
                | exact ⟨rfl, rfl⟩
                clear hK K)))
        refine wpQuiet_nil ?_
        intro V4 hV4
        have hb4 := hD2.out V4 hV4
        go_wp2_with fail
        go_ret
        exact ⟨by rw [hv.out, hbe.out]; rfl, Lib.grownBy_trans hHG3.out (up hb4 _), by rw [hf.out]; exact hHV3.out.below hb4⟩
    · obtain rfl : n = s.size := by omega
      have hH2 : Hid True := Lib.hid trivial
      have hf : Hid (stk P s (s.size, 0) = (s.size, 4)) := Lib.hid (by simp [stk])
      have hv : Hid (sby P s (s.size, 0) = 0) := Lib.hid (by simp [sby])
      have hcv := hCV
      clear h0 hP q1 q2 q3 q4
      go_enter Tryd.func49, Tryd.ntmps49
      go_wp2_with fail
      refine q_region C (by kernel_rfl) (by kernel_rfl) (hCd.out _ hC1.out) ?_
      repeat (first
        | (with_reducible refine q_off ?_ ?_
           · rfl
           try simp only [Act.put, List.getElem_toArray, List.getElem_cons_zero, List.getElem_cons_succ, List.setIfInBounds_toArray, List.set_cons_zero, List.set_cons_succ])
        | (with_reducible refine q_lds2 Tryd.isAgg9 ?_ ?_ ⟨X, 0, none⟩ ?_ (.string s) k0.out ?_
           · rfl
           · rfl
           · rfl
           try simp only [Act.put, List.getElem_toArray, List.getElem_cons_zero, List.getElem_cons_succ, List.setIfInBounds_toArray, List.set_cons_zero, List.set_cons_succ])
        | (with_reducible refine q_lds2 Tryd.isAgg3 ?_ ?_ ⟨X, 1, none⟩ ?_ (.int .i64 (s.size : Int)) k1.out ?_
           · rfl
           · rfl
           · rfl
           try simp only [Act.put, List.getElem_toArray, List.getElem_cons_zero, List.getElem_cons_succ, List.setIfInBounds_toArray, List.set_cons_zero, List.set_cons_succ])
        | (with_reducible refine wpQuiet_step ?_
           intro K hK
           go_simp
           first
           | (refine hK _ ?_; clear hK K)
           | (apply Exists.intro
              refine ⟨fun W hW => ?_, hK _ ?_⟩
              first
              | exact rfl
              | exact ⟨rfl, rfl⟩
                      clear hK K)))
      refine wpQuiet_nil ?_
      intro V1 hV1
      have hb := hCV.out V1 hV1
      have hs1 := hh.out.below hb
      have hc := Lib.hid (Tryd.dFail X s (s.size, 0) s.size 4 V1 hs1 (Nat.le_refl _))
      have hb1 := Lib.hid hb
      obtain ⟨b0, b1, b2, b3, b4, b5⟩ := hs1.c
      dsimp only at b1 b2
      clear hb hs1 c0 c1 c2 c3 c4 c5
      go_wp2_with (go_at_call 54; refine (hc.out).mono ?_; rintro e w' ⟨rfl, hg, hs⟩)
      go_ret
      exact ⟨by rw [hv.out]; rfl, Lib.grownBy_trans (up hb1.out _) hg, by rw [hf.out]; exact hs⟩
  · have hf : Hid (stk P s (n, e) = (n, e)) := Lib.hid (by simp [stk, he])
    have hv : Hid (sby P s (n, e) = 0) := Lib.hid (by simp [sby, he])
    clear h0
    go_enter Tryd.func49, Tryd.ntmps49
    go_wp2_with fail
    go_ret
    exact ⟨by rw [hv.out]; rfl, World.grownBy.refl _ _, by rw [hf.out]; exact hh.out⟩
end Go.Proofs
