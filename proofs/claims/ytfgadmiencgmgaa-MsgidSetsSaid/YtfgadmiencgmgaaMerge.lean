/- merge of two sorted lists -/
import Derived.Test.YtfgadmiencgmgaaGB
namespace Go.Proofs
open Go.RowKit Go.Shelf XK Go.Sort
set_option linter.unusedVariables false
set_option linter.unusedSimpArgs false
namespace XK
def mrg (keep : Bool → Bool → Bool) : List I32 → List I32 → List I32
  | [], [] => []
  | [], y :: b => (if keep false true then [y] else []) ++ mrg keep [] b
  | x :: a, [] => (if keep true false then [x] else []) ++ mrg keep a []
  | x :: a, y :: b => if cf x y < 0 then (if keep true false then [x] else []) ++ mrg keep a (y :: b) else if 0 < cf x y then (if keep false true then [y] else []) ++ mrg keep (x :: a) b else (if keep true true then [y] else []) ++ mrg keep a b
termination_by a b => a.length + b.length
/-- a slice that holds identities in w -/
def SL (w : World) (a : Option Addr) (n : Nat) (zs : List I32) : Prop :=
  n = zs.length ∧ (0 < n → ∃ b off, a = some ⟨b, off, none⟩ ∧ b < w.heap.size ∧ ∀ j (h : j < zs.length), w.rangeAt b (off + j * 32) (bv zs[j].1))
theorem SL.of {w : World} {sv : Value} {zs : List I32} (h : Ids w.heap.size w sv zs) : ∃ a n c, sv = .slice a n c ∧ SL w a n zs := by
  rcases h with ⟨⟨a, cap, rfl⟩, rfl⟩ | ⟨b, off, cap, rfl, hb, hc⟩
  · exact ⟨a, 0, cap, rfl, rfl, fun h => absurd h (Nat.lt_irrefl _)⟩
  · exact ⟨_, _, _, rfl, rfl, fun _ => ⟨b, off, rfl, hb, hc⟩⟩
theorem SL.tail {w : World} {g off m d : Nat} {y : I32} {zs : List I32} {b2 : Option Addr} (h : SL w (some ⟨g, off, none⟩) m (y :: zs)) (hd : m ≤ d) (hb : (if d = 1 then some ⟨g, off, none⟩ else some ⟨g, off + 32, none⟩ : Option Addr) = b2) : SL w b2 (m - 1) zs := by
  have h1 := h.1
  rw [List.length_cons] at h1
  refine ⟨by omega, fun h0 => ?_⟩
  rw [if_neg (by omega)] at hb
  obtain ⟨g', off', e, hg, hc⟩ := h.2 (by omega)
  cases e
  refine ⟨g, off + 32, hb.symm, hg, fun j hj => ?_⟩
  have := hc (j + 1) (by rw [List.length_cons]; omega)
  rw [show off + (j + 1) * 32 = off + 32 + j * 32 by omega] at this
  exact this
theorem grown_setCells (b : Nat) : ∀ (vs : List Value) (o : Nat) (W V : World), W.grownBy V (some b) → W.grownBy (V.setCells b o vs) (some b)
  | [], _, _, _, h => h
  | v :: vs, o, W, V, h => by
    rw [World.setCells]
    refine grown_setCells b vs (o + 1) W _ ?_
    have hs : (V.setCell ⟨b, o, none⟩ v).heap.size = V.heap.size := World.size_setCell V _ _
    exact ⟨h.os, h.tape, h.output, by rw [hs]; exact h.size, fun k hk hne => (Go.RowKit.Below.heap_setCell V ⟨b, o, none⟩ v k (fun e => hne (by rw [e]))).trans (h.block k hk hne)⟩
theorem store_new {X : Nat} {w V : World} {T : Nat} (hT : V.there T 0 32) (hX : X ≤ T) (hB : Go.RowKit.Below X w V) {ty : TypeId} {s9 : Value} {k : Nat} {xs : List Value} (hO : V.ownsRow X ty 32 s9 k xs) (hne : s9.ownBlock ≠ some T) (y : I32) :
    (V.setCells T 0 (bv y.1)).there T 0 32 ∧ Go.RowKit.Below X w (V.setCells T 0 (bv y.1)) ∧ (V.setCells T 0 (bv y.1)).ownsRow X ty 32 s9 k xs ∧ (V.setCells T 0 (bv y.1)).rangeAt T 0 (bv y.1) := by
  have hl : (bv y.1).length = 32 := by rw [bv_length, y.2]
  have hin := World.cell?_setCells_in T (bv y.1) 0 V (fun j hj => (hT j (by omega)).1)
  refine ⟨fun j hj => ?_, below_setCells T hX _ _ _ hB, hO.kept (grown_setCells T _ _ _ _ ⟨rfl, rfl, rfl, Nat.le_refl _, fun _ _ _ => rfl⟩) (.inr hne), fun j v hv => ?_⟩
  · rw [hin j (by omega), World.frozen?_setCells]
    exact ⟨rfl, (hT j hj).2⟩
  · have hj := (List.getElem?_eq_some_iff.1 hv).1
    rw [hin j hj]
    rw [List.getElem?_eq_getElem hj] at hv
    exact hv
theorem there_new (W : World) (t : TypeId) : (W.alloc (.cells (bv z32).toArray t)).there W.heap.size 0 32 := fun j hj => by
  have hl : (bv z32).length = 32 := rfl
  rw [Go.cell_of_row _ _ _ _ _ _ (Go.heap_alloc_new W _), Nat.zero_add]
  refine ⟨by simp [hj, hl], ?_⟩
  unfold World.frozen?
  rw [show (W.alloc (.cells (bv z32).toArray t)).heap[W.heap.size]? = _ from Go.heap_alloc_new W _]
  simp
theorem own_below {V V2 : World} {X : Nat} {ty : TypeId} {s9 : Value} {k : Nat} {xs : List Value} (h : V.ownsRow X ty 32 s9 k xs) (hb : Go.RowKit.Below V.heap.size V V2) : V2.ownsRow X ty 32 s9 k xs :=
  h.kept (row := none) ⟨hb.os, hb.tape, hb.output, hb.size, fun k hk _ => hb.block k hk⟩ (by cases s9.ownBlock <;> simp)
theorem there_lt {V : World} {T : Nat} (h : V.there T 0 32) : T < V.heap.size := by
  have h1 := (h 0 (by decide)).1
  unfold World.cell? at h1
  split at h1
  · rename_i hh
    exact (Array.getElem?_eq_some_iff.1 hh).1
  · cases h1
theorem own_ne {W : World} {X : Nat} {ty : TypeId} {s9 : Value} {k : Nat} {xs : List Value} (hO : W.ownsRow X ty 32 s9 k xs) : s9.ownBlock ≠ some W.heap.size := fun e => by
  rcases hO.2 with ⟨rfl, _⟩ | ⟨g, cap, cur, rfl, _, hg, _⟩
  · simp [Value.ownBlock] at e
  · have h1 : g = W.heap.size := by simpa [Value.ownBlock] using e
    have h2 := (Array.getElem?_eq_some_iff.1 hg).1
    omega
section
variable {P : Program} {md : Region.Mode} {ops : Array Oper} {Q : Exit → Act → World → Prop} {S : World → Prop}
theorem h_skip {i : Nat} {oi : Oper} {fuel : Nat} {listed : Array Bool} {a : Act} {w w' : World} (hr : Region.ready md ops listed = [i]) (hi : ops[i]? = some oi) (hw : Region.wanted oi (yielded ops a.tmps) = true)
    (hrun : (execOp a.eval oi).run P w = .ok .skip w') (hS : S w') (h : wpAnyH P md ops Q S fuel (listed.setIfInBounds i true) (a.put oi.dst undef) w') : wpAnyH P md ops Q S (fuel + 1) listed a w := by
  refine wpAnyH_all hr (by simp) fun j hj => ?_
  obtain rfl : j = i := by simpa using hj
  unfold wpOp
  rw [hi]
  show if Region.wanted oi (yielded ops a.tmps) = true then _ else _
  rw [if_pos hw]
  refine .inl ?_
  unfold Oper.wp
  rw [hrun]
  exact ⟨hS, h⟩
theorem run_st {T e : TypeId} (A : Arr P T e) {o : Oper} {a : Act} (x y : Operand) (ho : o.op = .store T x y) (b f : Nat) (hx : a.eval x = .pointer (some ⟨b, f, none⟩)) (l : List UInt8) (hy : a.eval y = .agg (bv l).toArray) (hl : l.length = 32) {w : World} (hc : w.there b f 32) :
    (execOp a.eval o).run P w = .ok .skip (w.setCells b f (bv l)) := by
  unfold execOp
  simp only [ho, hx, hy, Sem.run_bind, Sem.run_pure, run_storeAt_mid w b f T (bv l).toArray (by simpa [bv_length, hl] using hc) (by rw [A.st]; simp [bv_length, hl]) (all_oneCell_toArray (bv_one l)), Result.andThen_ok]
end
end XK
set_option maxRecDepth 100000 in
set_option maxHeartbeats 2000000 in
theorem Try.merge (keep : Bool → Bool → Bool) (fK : Nat) (eg : ∀ args w, (callFunc fK args).run Try.prog w = .ok (.enter fK args) w)
    (hk : ∀ p q W, Calls Try.prog fK #[.bool p, .bool q] W fun e w' => e = .returned (.bool (keep p q)) ∧ Go.RowKit.Below W.heap.size W w')
    (zs ys : List I32) (hz : zs.length ≤ 1000) (hy : ys.length ≤ 1000) (a b : Option Addr) (n m c d : Nat) (hcn : n ≤ c) (hdm : m ≤ d) (w : World) (hI : SL w a n zs) (hJ : SL w b m ys) :
    Calls Try.prog 43 #[.slice a n c, .slice b m d, .func (.func 17) #[] #[], .func (.func fK) #[] #[]] w fun e w' => ∃ v, e = .returned v ∧ w'.ownsRow w.heap.size 23 32 v (mrg keep zs ys).length (flat (mrg keep zs ys)) ∧ Go.RowKit.Below w.heap.size w w' := by
  have hHI := Lib.hid hI
  have hHJ := Lib.hid hJ
  have hHz := Lib.hid hz
  have hHy := Lib.hid hy
  clear hI hJ hz hy
  go_enter Try.func43, Try.ntmps43
  go_wp2
  go_loopw [0, 1, 9] (fun s0 s1 s9 wr => ∃ (us vs out : List I32) (a b : Option Addr) (n m c d : Nat), s0 = .slice a n c ∧ s1 = .slice b m d ∧ n ≤ c ∧ m ≤ d ∧ n ≤ 1000 ∧ m ≤ 1000 ∧ Hid (SL w a n us) ∧ Hid (SL w b m vs) ∧ Hid (out ++ mrg keep us vs = mrg keep zs ys ∧ out.length + n + m ≤ zs.length + ys.length) ∧ Hid (wr.ownsRow w.heap.size 23 32 s9 out.length (flat out)) ∧ Hid (Go.RowKit.Below w.heap.size w wr))
    (fun s0 s1 _ _ => (match s0 with | .slice _ n _ => n | _ => 0) + (match s1 with | .slice _ n _ => n | _ => 0))
  case atStart => exact ⟨zs, ys, [], a, b, n, m, c, d, rfl, rfl, hcn, hdm, by have := hHI.out.1; have := hHz.out; omega, by have := hHJ.out.1; have := hHy.out; omega, hHI, hHJ, Lib.hid ⟨rfl, by have := hHI.out.1; have := hHJ.out.1; simp; omega⟩, Lib.hid (World.ownsRow_nil _ _ _ _), Lib.hid (Go.RowKit.Below.refl _ _)⟩
  case round =>
    obtain ⟨us, vs, out, a, b, n, m, c, d, rfl, rfl, hcn, hdm, hn1, hm1, hA, hB', hM, hO, hB⟩ := hrel
    rcases Nat.eq_zero_or_pos n with h0 | h0
    · subst h0
      have e1 : us = [] := List.eq_nil_of_length_eq_zero hA.out.1.symm
      subst e1
      rcases Nat.eq_zero_or_pos m with h1 | h1
      · subst h1
        have e2 : vs = [] := List.eq_nil_of_length_eq_zero hB'.out.1.symm
        subst e2
        have hM2 := hM.out.1
        rw [mrg, List.append_nil] at hM2
        subst hM2
        obtain ⟨A, cc, rfl⟩ := XK.own_slice hO.out
        go_wp2
        go_ret
        exact ⟨_, rfl, hO.out, hB.out⟩
      · have p1 : (0 : Int) < m := by omega
        have p2 : (1 : Int) ≤ m := by omega
        obtain ⟨g, off, rfl, hg, hgc⟩ := hB'.out.2 h1
        obtain ⟨y, vs', rfl⟩ : ∃ y t, vs = y :: t := by
          have := hB'.out.1
          cases vs with
          | nil => simp at this; omega
          | cons y t => exact ⟨y, t, rfl⟩
        have hg0 : Hid (w.rangeAt g off (bv y.1)) := Lib.hid (by have h := hgc 0 (by simp); rw [Nat.zero_mul, Nat.add_zero] at h; exact h)
        obtain ⟨b2, hb2⟩ : ∃ b2, (if d = 1 then some ⟨g, off, none⟩ else some ⟨g, off + 32, none⟩ : Option Addr) = b2 := ⟨_, rfl⟩
        have hT : Hid (SL w b2 (m - 1) vs') := Lib.hid (SL.tail hB'.out hdm hb2)
        clear hgc
        have hly := Lib.hid y.2
        go_wp2_with (refine x_al Try.arrId rfl rfl ?_)
        have hVT := Lib.hid (XK.there_new wr 23)
        have hTX := Lib.hid hB.out.size
        have hVB := Lib.hid (hB.out.alloc hB.out.size (.cells (bv z32).toArray 23))
        have hVO := Lib.hid (hO.out.alloc (.cells (bv z32).toArray 23))
        have hVn := Lib.hid (XK.own_ne hO.out)
        clear hB hO
        generalize wr.alloc (.cells (bv z32).toArray 23) = V at hVT hVB hVO ⊢
        generalize wr.heap.size = T at hVT hTX hVn ⊢
        refine wp_region_held (S := fun w' => Go.RowKit.Below w.heap.size w w') (by kernel_rfl) ?_
        have hS : Go.RowKit.Below w.heap.size w { V with drawn := V.drawn + 1 } := hVB.out.drew
        refine h_val (i := 0) (v := ?_) rfl (by kernel_rfl) (by kernel_rfl) (by kernel_rfl) (fun _ _ _ h => h) rfl ?_ hS ?_
        rotate_left
        · intro W hW
          go_simp
          try exact rfl
        try simp only [Act.put, List.getElem_toArray, List.getElem_cons_zero, List.getElem_cons_succ, List.setIfInBounds_toArray, List.set_cons_zero, List.set_cons_succ]
        refine h_val (i := 1) (v := ?_) rfl (by kernel_rfl) (by kernel_rfl) (by kernel_rfl) (fun _ _ _ h => h) rfl ?_ hS ?_
        rotate_left
        · intro W hW
          go_simp
          try exact rfl
        try simp only [Act.put, List.getElem_toArray, List.getElem_cons_zero, List.getElem_cons_succ, List.setIfInBounds_toArray, List.set_cons_zero, List.set_cons_succ]
        refine h_val (i := 2) rfl (by kernel_rfl) (by kernel_rfl) (by kernel_rfl) (fun _ _ _ h => h) rfl (fun W hW => run_ld Try.arrId _ rfl g off rfl y.1 hly.out (range_below hW hg hg0.out)) hS ?_
        try simp only [Act.put, List.getElem_toArray, List.getElem_cons_zero, List.getElem_cons_succ, List.setIfInBounds_toArray, List.set_cons_zero, List.set_cons_succ]
        refine h_val (i := 3) (v := ?_) rfl (by kernel_rfl) (by kernel_rfl) (by kernel_rfl) (fun _ _ _ h => h) rfl ?_ hS ?_
        rotate_left
        · intro W hW
          go_simp
          try exact rfl
        try simp only [Act.put, List.getElem_toArray, List.getElem_cons_zero, List.getElem_cons_succ, List.setIfInBounds_toArray, List.set_cons_zero, List.set_cons_succ]
        refine h_val (i := 4) (v := ?_) rfl (by kernel_rfl) (by kernel_rfl) (by kernel_rfl) (fun _ _ _ h => h) rfl ?_ hS ?_
        rotate_left
        · intro W hW
          go_simp
          try exact rfl
        try simp only [Act.put, List.getElem_toArray, List.getElem_cons_zero, List.getElem_cons_succ, List.setIfInBounds_toArray, List.set_cons_zero, List.set_cons_succ]
        have hst := store_new (V := { V with drawn := V.drawn + 1 }) hVT.out hTX.out hS (ty := 23) hVO.out hVn.out y
        refine h_skip (i := 5) (by kernel_rfl) rfl rfl (run_st Try.arrId _ _ rfl T 0 rfl y.1 rfl hly.out hVT.out) hst.2.1 ?_
        try simp only [Act.put, List.getElem_toArray, List.getElem_cons_zero, List.getElem_cons_succ, List.setIfInBounds_toArray, List.set_cons_zero, List.set_cons_succ]
        refine h_val (i := 6) (v := .slice b2 (m - 1) (d - 1)) rfl (by kernel_rfl) (by kernel_rfl) (by kernel_rfl) (fun _ _ _ h => h) rfl (fun _ _ => rfl) hst.2.1 ?_
        try simp only [Act.put, List.getElem_toArray, List.getElem_cons_zero, List.getElem_cons_succ, List.setIfInBounds_toArray, List.set_cons_zero, List.set_cons_succ]
        refine wpAnyH_done (by kernel_rfl) ?_ _
        replace hVT := Lib.hid hst.1
        replace hVB := Lib.hid hst.2.1
        replace hVO := Lib.hid hst.2.2.1
        have hVyy := Lib.hid hst.2.2.2
        clear hS hst
        generalize World.setCells { V with drawn := V.drawn + 1 } T 0 (bv y.1) = V at hVT hVB hVO hVyy ⊢
        obtain ⟨kb, hkb⟩ : ∃ kb, keep false true = kb := ⟨_, rfl⟩
        have hkk := hk false true
        rw [hkb] at hkk
        have hMm := hM.out
        rw [mrg] at hMm
        rw [hkb] at hMm
        have hHM := Lib.hid hMm
        clear hMm hM hkb
        go_wp2
        refine (hkk _).mono ?_
        rintro e V2 ⟨rfl, hb2⟩
        have hTl := XK.there_lt hVT.out
        have hy2 := Lib.hid (range_below hb2 hTl hVyy.out)
        have hO2 := Lib.hid (XK.own_below hVO.out hb2)
        have hB2 := Lib.hid (hVB.out.trans (hb2.mono hVB.out.size))
        clear hVT hVyy hVO hVB hb2 hVn hTX hTl
        cases kb
        · go_wp2
          go_roundw
          case rel =>
            obtain ⟨A, cc, rfl⟩ := XK.own_slice hO2.out
            exact ⟨[], vs', out, a, b2, 0, (m - 1), c, (d - 1), rfl, rfl, by omega, by omega, by omega, by omega, hA, hT, Lib.hid ⟨by simpa using hHM.out.1, by have := hHM.out.2; omega⟩, hO2, hB2⟩
          case measure => simp; omega
        · have hlen : out.length ≤ 2000 := by
            have := hHM.out.2
            have := hHz.out
            have := hHy.out
            omega
          go_wp2_with (first
            | (refine x_ld Try.arrId rfl _ rfl _ _ rfl y.1 hly.out hy2.out ?_)
            | (refine x_bsl Try.arrId _ _ rfl rfl Try.underlying45 y.1 hly.out rfl ?_)
            | (at_builtin; refine x_app rfl _ _ 45 rfl w.heap.size 23 (.agg (bv z32).toArray) 32 32 Try.underlying45 Try.infoId rfl (by decide) _ out.length _ rfl hO2.out 1 (bv y.1) _ rfl rfl (by rw [bv_length, hly.out]) (bv_one y.1) (by omega) (by decide) hB2.out.size ?_))
          intro v' w1 hown1 hg1 _ _
          obtain ⟨A, cc, rfl⟩ := XK.own_slice hown1
          have hb1 : Hid (Go.RowKit.Below w.heap.size w w1) := Lib.hid (hB2.out.grown hg1 hB2.out.size (fun j e => (hO2.out.lt j e).1))
          have hown2 : Hid (w1.ownsRow w.heap.size 23 32 (.slice A (out.length + 1) cc) (out ++ [y]).length (flat (out ++ [y]))) := Lib.hid (by
            rw [flat_snoc, List.length_append]
            exact hown1)
          clear hown1 hg1 hB2 hO2
          go_wp2
          go_roundw
          case rel => exact ⟨[], vs', out ++ [y], a, b2, 0, (m - 1), c, (d - 1), rfl, rfl, by omega, by omega, by omega, by omega, hA, hT, Lib.hid ⟨by have := hHM.out.1; simpa using this, by have := hHM.out.2; rw [List.length_append]; simp; omega⟩, hown2, hb1⟩
          case measure => simp; omega
    · have q1 : (0 : Int) < n := by omega
      have q2 : (1 : Int) ≤ n := by omega
      have q3 : ((n : Int) == 0) = false := by simp; omega
      obtain ⟨g1, off1, rfl, hg1, hg1c⟩ := hA.out.2 h0
      obtain ⟨x, us', rfl⟩ : ∃ y t, us = y :: t := by
        have := hA.out.1
        cases us with
        | nil => simp at this; omega
        | cons y t => exact ⟨y, t, rfl⟩
      have hg10 : Hid (w.rangeAt g1 off1 (bv x.1)) := Lib.hid (by have h := hg1c 0 (by simp); rw [Nat.zero_mul, Nat.add_zero] at h; exact h)
      obtain ⟨a2, ha2⟩ : ∃ b2, (if c = 1 then some ⟨g1, off1, none⟩ else some ⟨g1, off1 + 32, none⟩ : Option Addr) = b2 := ⟨_, rfl⟩
      have hT1 : Hid (SL w a2 (n - 1) us') := Lib.hid (SL.tail hA.out hcn ha2)
      clear hg1c
      have hlx := Lib.hid x.2
      rcases Nat.eq_zero_or_pos m with h1 | h1
      · subst h1
        have e2 : vs = [] := List.eq_nil_of_length_eq_zero hB'.out.1.symm
        subst e2
        go_wp2_with (refine x_al Try.arrId rfl rfl ?_)
        have hVT := Lib.hid (XK.there_new wr 23)
        have hTX := Lib.hid hB.out.size
        have hVB := Lib.hid (hB.out.alloc hB.out.size (.cells (bv z32).toArray 23))
        have hVO := Lib.hid (hO.out.alloc (.cells (bv z32).toArray 23))
        have hVn := Lib.hid (XK.own_ne hO.out)
        clear hB hO
        generalize wr.alloc (.cells (bv z32).toArray 23) = V at hVT hVB hVO ⊢
        generalize wr.heap.size = T at hVT hTX hVn ⊢
        refine wp_region_held (S := fun w' => Go.RowKit.Below w.heap.size w w') (by kernel_rfl) ?_
        have hS : Go.RowKit.Below w.heap.size w { V with drawn := V.drawn + 1 } := hVB.out.drew
        refine h_val (i := 0) (v := ?_) rfl (by kernel_rfl) (by kernel_rfl) (by kernel_rfl) (fun _ _ _ h => h) rfl ?_ hS ?_
        rotate_left
        · intro W hW
          go_simp
          try exact rfl
        try simp only [Act.put, List.getElem_toArray, List.getElem_cons_zero, List.getElem_cons_succ, List.setIfInBounds_toArray, List.set_cons_zero, List.set_cons_succ]
        refine h_val (i := 1) (v := ?_) rfl (by kernel_rfl) (by kernel_rfl) (by kernel_rfl) (fun _ _ _ h => h) rfl ?_ hS ?_
        rotate_left
        · intro W hW
          go_simp
          try exact rfl
        try simp only [Act.put, List.getElem_toArray, List.getElem_cons_zero, List.getElem_cons_succ, List.setIfInBounds_toArray, List.set_cons_zero, List.set_cons_succ]
        refine h_val (i := 2) rfl (by kernel_rfl) (by kernel_rfl) (by kernel_rfl) (fun _ _ _ h => h) rfl (fun W hW => run_ld Try.arrId _ rfl g1 off1 rfl x.1 hlx.out (range_below hW hg1 hg10.out)) hS ?_
        try simp only [Act.put, List.getElem_toArray, List.getElem_cons_zero, List.getElem_cons_succ, List.setIfInBounds_toArray, List.set_cons_zero, List.set_cons_succ]
        refine h_val (i := 3) (v := ?_) rfl (by kernel_rfl) (by kernel_rfl) (by kernel_rfl) (fun _ _ _ h => h) rfl ?_ hS ?_
        rotate_left
        · intro W hW
          go_simp
          try exact rfl
        try simp only [Act.put, List.getElem_toArray, List.getElem_cons_zero, List.getElem_cons_succ, List.setIfInBounds_toArray, List.set_cons_zero, List.set_cons_succ]
        refine h_val (i := 4) (v := ?_) rfl (by kernel_rfl) (by kernel_rfl) (by kernel_rfl) (fun _ _ _ h => h) rfl ?_ hS ?_
        rotate_left
        · intro W hW
          go_simp
          try exact rfl
        try simp only [Act.put, List.getElem_toArray, List.getElem_cons_zero, List.getElem_cons_succ, List.setIfInBounds_toArray, List.set_cons_zero, List.set_cons_succ]
        have hst := store_new (V := { V with drawn := V.drawn + 1 }) hVT.out hTX.out hS (ty := 23) hVO.out hVn.out x
        refine h_skip (i := 5) (by kernel_rfl) rfl rfl (run_st Try.arrId _ _ rfl T 0 rfl x.1 rfl hlx.out hVT.out) hst.2.1 ?_
        try simp only [Act.put, List.getElem_toArray, List.getElem_cons_zero, List.getElem_cons_succ, List.setIfInBounds_toArray, List.set_cons_zero, List.set_cons_succ]
        refine h_val (i := 6) (v := .slice a2 (n - 1) (c - 1)) rfl (by kernel_rfl) (by kernel_rfl) (by kernel_rfl) (fun _ _ _ h => h) rfl (fun _ _ => rfl) hst.2.1 ?_
        try simp only [Act.put, List.getElem_toArray, List.getElem_cons_zero, List.getElem_cons_succ, List.setIfInBounds_toArray, List.set_cons_zero, List.set_cons_succ]
        refine wpAnyH_done (by kernel_rfl) ?_ _
        replace hVT := Lib.hid hst.1
        replace hVB := Lib.hid hst.2.1
        replace hVO := Lib.hid hst.2.2.1
        have hVyx := Lib.hid hst.2.2.2
        clear hS hst
        generalize World.setCells { V with drawn := V.drawn + 1 } T 0 (bv x.1) = V at hVT hVB hVO hVyx ⊢
        obtain ⟨kb, hkb⟩ : ∃ kb, keep true false = kb := ⟨_, rfl⟩
        have hkk := hk true false
        rw [hkb] at hkk
        have hMm := hM.out
        rw [mrg] at hMm
        rw [hkb] at hMm
        have hHM := Lib.hid hMm
        clear hMm hM hkb
        go_wp2
        refine (hkk _).mono ?_
        rintro e V2 ⟨rfl, hb2⟩
        have hTl := XK.there_lt hVT.out
        have hy2 := Lib.hid (range_below hb2 hTl hVyx.out)
        have hO2 := Lib.hid (XK.own_below hVO.out hb2)
        have hB2 := Lib.hid (hVB.out.trans (hb2.mono hVB.out.size))
        clear hVT hVyx hVO hVB hb2 hVn hTX hTl
        cases kb
        · go_wp2
          go_roundw
          case rel =>
            obtain ⟨A, cc, rfl⟩ := XK.own_slice hO2.out
            exact ⟨us', [], out, a2, b, (n - 1), 0, (c - 1), d, rfl, rfl, by omega, by omega, by omega, by omega, hT1, hB', Lib.hid ⟨by simpa using hHM.out.1, by have := hHM.out.2; omega⟩, hO2, hB2⟩
          case measure => simp; omega
        · have hlen : out.length ≤ 2000 := by
            have := hHM.out.2
            have := hHz.out
            have := hHy.out
            omega
          go_wp2_with (first
            | (refine x_ld Try.arrId rfl _ rfl _ _ rfl x.1 hlx.out hy2.out ?_)
            | (refine x_bsl Try.arrId _ _ rfl rfl Try.underlying45 x.1 hlx.out rfl ?_)
            | (at_builtin; refine x_app rfl _ _ 45 rfl w.heap.size 23 (.agg (bv z32).toArray) 32 32 Try.underlying45 Try.infoId rfl (by decide) _ out.length _ rfl hO2.out 1 (bv x.1) _ rfl rfl (by rw [bv_length, hlx.out]) (bv_one x.1) (by omega) (by decide) hB2.out.size ?_))
          intro v' w1 hown1 hg1 _ _
          obtain ⟨A, cc, rfl⟩ := XK.own_slice hown1
          have hb1 : Hid (Go.RowKit.Below w.heap.size w w1) := Lib.hid (hB2.out.grown hg1 hB2.out.size (fun j e => (hO2.out.lt j e).1))
          have hown2 : Hid (w1.ownsRow w.heap.size 23 32 (.slice A (out.length + 1) cc) (out ++ [x]).length (flat (out ++ [x]))) := Lib.hid (by
            rw [flat_snoc, List.length_append]
            exact hown1)
          clear hown1 hg1 hB2 hO2
          go_wp2
          go_roundw
          case rel => exact ⟨us', [], out ++ [x], a2, b, (n - 1), 0, (c - 1), d, rfl, rfl, by omega, by omega, by omega, by omega, hT1, hB', Lib.hid ⟨by have := hHM.out.1; simpa using this, by have := hHM.out.2; rw [List.length_append]; simp; omega⟩, hown2, hb1⟩
          case measure => simp; omega
      · have p1 : (0 : Int) < m := by omega
        have p2 : (1 : Int) ≤ m := by omega
        have p3 : ((m : Int) == 0) = false := by simp; omega
        obtain ⟨g, off, rfl, hg, hgc⟩ := hB'.out.2 h1
        obtain ⟨y, vs', rfl⟩ : ∃ y t, vs = y :: t := by
          have := hB'.out.1
          cases vs with
          | nil => simp at this; omega
          | cons y t => exact ⟨y, t, rfl⟩
        have hg0 : Hid (w.rangeAt g off (bv y.1)) := Lib.hid (by have h := hgc 0 (by simp); rw [Nat.zero_mul, Nat.add_zero] at h; exact h)
        obtain ⟨b2, hb2⟩ : ∃ b2, (if d = 1 then some ⟨g, off, none⟩ else some ⟨g, off + 32, none⟩ : Option Addr) = b2 := ⟨_, rfl⟩
        have hT : Hid (SL w b2 (m - 1) vs') := Lib.hid (SL.tail hB'.out hdm hb2)
        clear hgc
        have hly := Lib.hid y.2
        obtain ⟨k, hkc⟩ : ∃ k, cf x y = k := ⟨_, rfl⟩
        obtain ⟨C, hC1, hCB⟩ : ∃ C : World → Prop, C { wr with drawn := wr.drawn + 1 } ∧ ((∀ W W', C W → Go.RowKit.Below W.heap.size W W' → C W') ∧ (∀ W, C W → Go.RowKit.Below wr.heap.size wr W)) :=
          ⟨fun W => Go.RowKit.Below wr.heap.size wr W, (Go.RowKit.Below.refl _ _).drew, fun W W' h hb => h.trans (hb.mono h.size), fun W h => h⟩
        have hcmp : Hid (∀ W, C W → Calls Try.prog 17 #[.agg (bv x.1).toArray, .agg (bv y.1).toArray] W fun e w' => e = .returned (.int .i64 k) ∧ C w') :=
          Lib.hid (fun W hW => (Try.compare x.1 y.1 x.2 y.2 W).mono fun e w' h => ⟨by rw [← hkc]; exact h.1, hCB.1 W w' hW h.2⟩)
        have hC1' := Lib.hid hC1
        have hCB' := Lib.hid hCB
        have hRa := Lib.hid (fun W hW => range_below ((hB.out.trans ((hCB.2 W hW).mono hB.out.size))) hg1 hg10.out)
        have hRb := Lib.hid (fun W hW => range_below ((hB.out.trans ((hCB.2 W hW).mono hB.out.size))) hg hg0.out)
        have hkr := XK.cmp_three x.1 y.1
        change cf x y = -1 ∨ cf x y = 0 ∨ cf x y = 1 at hkr
        rw [hkc] at hkr
        have hHkc := Lib.hid hkc
        clear hC1 hCB hkc
        go_wp2_with fail
        refine q_region C (by kernel_rfl) (by kernel_rfl) hC1'.out ?_
        repeat (first
          | (refine q_ld Try.arrId _ rfl rfl g1 off1 rfl x.1 hlx.out hRa.out ?_)
          | (refine q_ld Try.arrId _ rfl rfl g off rfl y.1 hly.out hRb.out ?_)
          | (refine wpQuiet_step (fun K hK => ?_)
             go_simp
             first
             | (refine hK _ ?_; clear hK K)
             | (apply Exists.intro
                refine ⟨fun W hW => ?_, hK _ ?_⟩
                first
                | exact rfl
                | exact ⟨rfl, rfl⟩
                | (with_reducible exact hcmp.out W hW)
                clear hK K)))
        refine wpQuiet_nil ?_
        intro V1 hV1
        have hb9 := (hCB'.out).2 V1 hV1
        have hO9 := Lib.hid (XK.own_below hO.out hb9)
        have hB9 := Lib.hid (hB.out.trans (hb9.mono hB.out.size))
        clear hV1 hb9 hRa hRb hC1' hCB' hcmp hB hO
        rcases hkr with rfl | rfl | rfl
        · go_wp2_with (refine x_al Try.arrId rfl rfl ?_)
          have hVT := Lib.hid (XK.there_new V1 23)
          have hTX := Lib.hid hB9.out.size
          have hVB := Lib.hid (hB9.out.alloc hB9.out.size (.cells (bv z32).toArray 23))
          have hVO := Lib.hid (hO9.out.alloc (.cells (bv z32).toArray 23))
          have hVn := Lib.hid (XK.own_ne hO9.out)
          clear hB9 hO9
          generalize V1.alloc (.cells (bv z32).toArray 23) = V at hVT hVB hVO ⊢
          generalize V1.heap.size = T at hVT hTX hVn ⊢
          refine wp_region_held (S := fun w' => Go.RowKit.Below w.heap.size w w') (by kernel_rfl) ?_
          have hS : Go.RowKit.Below w.heap.size w { V with drawn := V.drawn + 1 } := hVB.out.drew
          refine h_val (i := 0) (v := ?_) rfl (by kernel_rfl) (by kernel_rfl) (by kernel_rfl) (fun _ _ _ h => h) rfl ?_ hS ?_
          rotate_left
          · intro W hW
            go_simp
            try exact rfl
          try simp only [Act.put, List.getElem_toArray, List.getElem_cons_zero, List.getElem_cons_succ, List.setIfInBounds_toArray, List.set_cons_zero, List.set_cons_succ]
          refine h_val (i := 1) (v := ?_) rfl (by kernel_rfl) (by kernel_rfl) (by kernel_rfl) (fun _ _ _ h => h) rfl ?_ hS ?_
          rotate_left
          · intro W hW
            go_simp
            try exact rfl
          try simp only [Act.put, List.getElem_toArray, List.getElem_cons_zero, List.getElem_cons_succ, List.setIfInBounds_toArray, List.set_cons_zero, List.set_cons_succ]
          refine h_val (i := 2) rfl (by kernel_rfl) (by kernel_rfl) (by kernel_rfl) (fun _ _ _ h => h) rfl (fun W hW => run_ld Try.arrId _ rfl g1 off1 rfl x.1 hlx.out (range_below hW hg1 hg10.out)) hS ?_
          try simp only [Act.put, List.getElem_toArray, List.getElem_cons_zero, List.getElem_cons_succ, List.setIfInBounds_toArray, List.set_cons_zero, List.set_cons_succ]
          refine h_val (i := 3) (v := ?_) rfl (by kernel_rfl) (by kernel_rfl) (by kernel_rfl) (fun _ _ _ h => h) rfl ?_ hS ?_
          rotate_left
          · intro W hW
            go_simp
            try exact rfl
          try simp only [Act.put, List.getElem_toArray, List.getElem_cons_zero, List.getElem_cons_succ, List.setIfInBounds_toArray, List.set_cons_zero, List.set_cons_succ]
          refine h_val (i := 4) (v := ?_) rfl (by kernel_rfl) (by kernel_rfl) (by kernel_rfl) (fun _ _ _ h => h) rfl ?_ hS ?_
          rotate_left
          · intro W hW
            go_simp
            try exact rfl
          try simp only [Act.put, List.getElem_toArray, List.getElem_cons_zero, List.getElem_cons_succ, List.setIfInBounds_toArray, List.set_cons_zero, List.set_cons_succ]
          have hst := store_new (V := { V with drawn := V.drawn + 1 }) hVT.out hTX.out hS (ty := 23) hVO.out hVn.out x
          refine h_skip (i := 5) (by kernel_rfl) rfl rfl (run_st Try.arrId _ _ rfl T 0 rfl x.1 rfl hlx.out hVT.out) hst.2.1 ?_
          try simp only [Act.put, List.getElem_toArray, List.getElem_cons_zero, List.getElem_cons_succ, List.setIfInBounds_toArray, List.set_cons_zero, List.set_cons_succ]
          refine h_val (i := 6) (v := .slice a2 (n - 1) (c - 1)) rfl (by kernel_rfl) (by kernel_rfl) (by kernel_rfl) (fun _ _ _ h => h) rfl (fun _ _ => rfl) hst.2.1 ?_
          try simp only [Act.put, List.getElem_toArray, List.getElem_cons_zero, List.getElem_cons_succ, List.setIfInBounds_toArray, List.set_cons_zero, List.set_cons_succ]
          refine wpAnyH_done (by kernel_rfl) ?_ _
          replace hVT := Lib.hid hst.1
          replace hVB := Lib.hid hst.2.1
          replace hVO := Lib.hid hst.2.2.1
          have hVyx := Lib.hid hst.2.2.2
          clear hS hst
          generalize World.setCells { V with drawn := V.drawn + 1 } T 0 (bv x.1) = V at hVT hVB hVO hVyx ⊢
          obtain ⟨kb, hkb⟩ : ∃ kb, keep true false = kb := ⟨_, rfl⟩
          have hkk := hk true false
          rw [hkb] at hkk
          have hMm := hM.out
          rw [mrg, hHkc.out, if_pos (by decide)] at hMm
          rw [hkb] at hMm
          have hHM := Lib.hid hMm
          clear hMm hM hkb
          go_wp2
          refine (hkk _).mono ?_
          rintro e V2 ⟨rfl, hb2⟩
          have hTl := XK.there_lt hVT.out
          have hy2 := Lib.hid (range_below hb2 hTl hVyx.out)
          have hO2 := Lib.hid (XK.own_below hVO.out hb2)
          have hB2 := Lib.hid (hVB.out.trans (hb2.mono hVB.out.size))
          clear hVT hVyx hVO hVB hb2 hVn hTX hTl
          cases kb
          · go_wp2
            go_roundw
            case rel =>
              obtain ⟨A, cc, rfl⟩ := XK.own_slice hO2.out
              exact ⟨us', (y :: vs'), out, a2, (some ⟨g, off, none⟩), (n - 1), m, (c - 1), d, rfl, rfl, by omega, by omega, by omega, by omega, hT1, hB', Lib.hid ⟨by simpa using hHM.out.1, by have := hHM.out.2; omega⟩, hO2, hB2⟩
            case measure => simp; omega
          · have hlen : out.length ≤ 2000 := by
              have := hHM.out.2
              have := hHz.out
              have := hHy.out
              omega
            go_wp2_with (first
              | (refine x_ld Try.arrId rfl _ rfl _ _ rfl x.1 hlx.out hy2.out ?_)
              | (refine x_bsl Try.arrId _ _ rfl rfl Try.underlying45 x.1 hlx.out rfl ?_)
              | (at_builtin; refine x_app rfl _ _ 45 rfl w.heap.size 23 (.agg (bv z32).toArray) 32 32 Try.underlying45 Try.infoId rfl (by decide) _ out.length _ rfl hO2.out 1 (bv x.1) _ rfl rfl (by rw [bv_length, hlx.out]) (bv_one x.1) (by omega) (by decide) hB2.out.size ?_))
            intro v' w1 hown1 hg1 _ _
            obtain ⟨A, cc, rfl⟩ := XK.own_slice hown1
            have hb1 : Hid (Go.RowKit.Below w.heap.size w w1) := Lib.hid (hB2.out.grown hg1 hB2.out.size (fun j e => (hO2.out.lt j e).1))
            have hown2 : Hid (w1.ownsRow w.heap.size 23 32 (.slice A (out.length + 1) cc) (out ++ [x]).length (flat (out ++ [x]))) := Lib.hid (by
              rw [flat_snoc, List.length_append]
              exact hown1)
            clear hown1 hg1 hB2 hO2
            go_wp2
            go_roundw
            case rel => exact ⟨us', (y :: vs'), out ++ [x], a2, (some ⟨g, off, none⟩), (n - 1), m, (c - 1), d, rfl, rfl, by omega, by omega, by omega, by omega, hT1, hB', Lib.hid ⟨by have := hHM.out.1; simpa using this, by have := hHM.out.2; rw [List.length_append]; simp; omega⟩, hown2, hb1⟩
            case measure => simp; omega
        · go_wp2_with (refine x_al Try.arrId rfl rfl ?_)
          have hVT := Lib.hid (XK.there_new V1 23)
          have hTX := Lib.hid hB9.out.size
          have hVB := Lib.hid (hB9.out.alloc hB9.out.size (.cells (bv z32).toArray 23))
          have hVO := Lib.hid (hO9.out.alloc (.cells (bv z32).toArray 23))
          have hVn := Lib.hid (XK.own_ne hO9.out)
          clear hB9 hO9
          generalize V1.alloc (.cells (bv z32).toArray 23) = V at hVT hVB hVO ⊢
          generalize V1.heap.size = T at hVT hTX hVn ⊢
          refine wp_region_held (S := fun w' => Go.RowKit.Below w.heap.size w w') (by kernel_rfl) ?_
          have hS : Go.RowKit.Below w.heap.size w { V with drawn := V.drawn + 1 } := hVB.out.drew
          refine h_val (i := 0) (v := ?_) rfl (by kernel_rfl) (by kernel_rfl) (by kernel_rfl) (fun _ _ _ h => h) rfl ?_ hS ?_
          rotate_left
          · intro W hW
            go_simp
            try exact rfl
          try simp only [Act.put, List.getElem_toArray, List.getElem_cons_zero, List.getElem_cons_succ, List.setIfInBounds_toArray, List.set_cons_zero, List.set_cons_succ]
          refine h_val (i := 1) (v := ?_) rfl (by kernel_rfl) (by kernel_rfl) (by kernel_rfl) (fun _ _ _ h => h) rfl ?_ hS ?_
          rotate_left
          · intro W hW
            go_simp
            try exact rfl
          try simp only [Act.put, List.getElem_toArray, List.getElem_cons_zero, List.getElem_cons_succ, List.setIfInBounds_toArray, List.set_cons_zero, List.set_cons_succ]
          refine h_val (i := 2) rfl (by kernel_rfl) (by kernel_rfl) (by kernel_rfl) (fun _ _ _ h => h) rfl (fun W hW => run_ld Try.arrId _ rfl g1 off1 rfl x.1 hlx.out (range_below hW hg1 hg10.out)) hS ?_
          try simp only [Act.put, List.getElem_toArray, List.getElem_cons_zero, List.getElem_cons_succ, List.setIfInBounds_toArray, List.set_cons_zero, List.set_cons_succ]
          refine h_val (i := 3) (v := ?_) rfl (by kernel_rfl) (by kernel_rfl) (by kernel_rfl) (fun _ _ _ h => h) rfl ?_ hS ?_
          rotate_left
          · intro W hW
            go_simp
            try exact rfl
          try simp only [Act.put, List.getElem_toArray, List.getElem_cons_zero, List.getElem_cons_succ, List.setIfInBounds_toArray, List.set_cons_zero, List.set_cons_succ]
          refine h_val (i := 4) (v := ?_) rfl (by kernel_rfl) (by kernel_rfl) (by kernel_rfl) (fun _ _ _ h => h) rfl ?_ hS ?_
          rotate_left
          · intro W hW
            go_simp
            try exact rfl
          try simp only [Act.put, List.getElem_toArray, List.getElem_cons_zero, List.getElem_cons_succ, List.setIfInBounds_toArray, List.set_cons_zero, List.set_cons_succ]
          have hst := store_new (V := { V with drawn := V.drawn + 1 }) hVT.out hTX.out hS (ty := 23) hVO.out hVn.out x
          refine h_skip (i := 5) (by kernel_rfl) rfl rfl (run_st Try.arrId _ _ rfl T 0 rfl x.1 rfl hlx.out hVT.out) hst.2.1 ?_
          try simp only [Act.put, List.getElem_toArray, List.getElem_cons_zero, List.getElem_cons_succ, List.setIfInBounds_toArray, List.set_cons_zero, List.set_cons_succ]
          refine h_val (i := 6) (v := .slice a2 (n - 1) (c - 1)) rfl (by kernel_rfl) (by kernel_rfl) (by kernel_rfl) (fun _ _ _ h => h) rfl (fun _ _ => rfl) hst.2.1 ?_
          try simp only [Act.put, List.getElem_toArray, List.getElem_cons_zero, List.getElem_cons_succ, List.setIfInBounds_toArray, List.set_cons_zero, List.set_cons_succ]
          refine wpAnyH_done (by kernel_rfl) ?_ _
          replace hVT := Lib.hid hst.1
          replace hVB := Lib.hid hst.2.1
          replace hVO := Lib.hid hst.2.2.1
          have hVyx := Lib.hid hst.2.2.2
          clear hS hst
          generalize World.setCells { V with drawn := V.drawn + 1 } T 0 (bv x.1) = V at hVT hVB hVO hVyx ⊢
          go_wp2
          refine wp_region_held (S := fun w' => Go.RowKit.Below w.heap.size w w') (by kernel_rfl) ?_
          have hS : Go.RowKit.Below w.heap.size w { V with drawn := V.drawn + 1 } := hVB.out.drew
          refine h_val (i := 0) (v := ?_) rfl (by kernel_rfl) (by kernel_rfl) (by kernel_rfl) (fun _ _ _ h => h) rfl ?_ hS ?_
          rotate_left
          · intro W hW
            go_simp
            try exact rfl
          try simp only [Act.put, List.getElem_toArray, List.getElem_cons_zero, List.getElem_cons_succ, List.setIfInBounds_toArray, List.set_cons_zero, List.set_cons_succ]
          refine h_val (i := 1) (v := ?_) rfl (by kernel_rfl) (by kernel_rfl) (by kernel_rfl) (fun _ _ _ h => h) rfl ?_ hS ?_
          rotate_left
          · intro W hW
            go_simp
            try exact rfl
          try simp only [Act.put, List.getElem_toArray, List.getElem_cons_zero, List.getElem_cons_succ, List.setIfInBounds_toArray, List.set_cons_zero, List.set_cons_succ]
          refine h_val (i := 2) rfl (by kernel_rfl) (by kernel_rfl) (by kernel_rfl) (fun _ _ _ h => h) rfl (fun W hW => run_ld Try.arrId _ rfl g off rfl y.1 hly.out (range_below hW hg hg0.out)) hS ?_
          try simp only [Act.put, List.getElem_toArray, List.getElem_cons_zero, List.getElem_cons_succ, List.setIfInBounds_toArray, List.set_cons_zero, List.set_cons_succ]
          refine h_val (i := 3) (v := ?_) rfl (by kernel_rfl) (by kernel_rfl) (by kernel_rfl) (fun _ _ _ h => h) rfl ?_ hS ?_
          rotate_left
          · intro W hW
            go_simp
            try exact rfl
          try simp only [Act.put, List.getElem_toArray, List.getElem_cons_zero, List.getElem_cons_succ, List.setIfInBounds_toArray, List.set_cons_zero, List.set_cons_succ]
          refine h_val (i := 4) (v := ?_) rfl (by kernel_rfl) (by kernel_rfl) (by kernel_rfl) (fun _ _ _ h => h) rfl ?_ hS ?_
          rotate_left
          · intro W hW
            go_simp
            try exact rfl
          try simp only [Act.put, List.getElem_toArray, List.getElem_cons_zero, List.getElem_cons_succ, List.setIfInBounds_toArray, List.set_cons_zero, List.set_cons_succ]
          have hst := store_new (V := { V with drawn := V.drawn + 1 }) hVT.out hTX.out hS (ty := 23) hVO.out hVn.out y
          refine h_skip (i := 5) (by kernel_rfl) rfl rfl (run_st Try.arrId _ _ rfl T 0 rfl y.1 rfl hly.out hVT.out) hst.2.1 ?_
          try simp only [Act.put, List.getElem_toArray, List.getElem_cons_zero, List.getElem_cons_succ, List.setIfInBounds_toArray, List.set_cons_zero, List.set_cons_succ]
          refine h_val (i := 6) (v := .slice b2 (m - 1) (d - 1)) rfl (by kernel_rfl) (by kernel_rfl) (by kernel_rfl) (fun _ _ _ h => h) rfl (fun _ _ => rfl) hst.2.1 ?_
          try simp only [Act.put, List.getElem_toArray, List.getElem_cons_zero, List.getElem_cons_succ, List.setIfInBounds_toArray, List.set_cons_zero, List.set_cons_succ]
          refine wpAnyH_done (by kernel_rfl) ?_ _
          replace hVT := Lib.hid hst.1
          replace hVB := Lib.hid hst.2.1
          replace hVO := Lib.hid hst.2.2.1
          have hVyy := Lib.hid hst.2.2.2
          clear hS hst
          generalize World.setCells { V with drawn := V.drawn + 1 } T 0 (bv y.1) = V at hVT hVB hVO hVyy ⊢
          obtain ⟨kb, hkb⟩ : ∃ kb, keep true true = kb := ⟨_, rfl⟩
          have hkk := hk true true
          rw [hkb] at hkk
          have hMm := hM.out
          rw [mrg, hHkc.out, if_neg (by decide), if_neg (by decide)] at hMm
          rw [hkb] at hMm
          have hHM := Lib.hid hMm
          clear hMm hM hkb
          go_wp2
          refine (hkk _).mono ?_
          rintro e V2 ⟨rfl, hb2⟩
          have hTl := XK.there_lt hVT.out
          have hy2 := Lib.hid (range_below hb2 hTl hVyy.out)
          have hO2 := Lib.hid (XK.own_below hVO.out hb2)
          have hB2 := Lib.hid (hVB.out.trans (hb2.mono hVB.out.size))
          clear hVT hVyy hVO hVB hb2 hVn hTX hTl
          cases kb
          · go_wp2
            go_roundw
            case rel =>
              obtain ⟨A, cc, rfl⟩ := XK.own_slice hO2.out
              exact ⟨us', vs', out, a2, b2, (n - 1), (m - 1), (c - 1), (d - 1), rfl, rfl, by omega, by omega, by omega, by omega, hT1, hT, Lib.hid ⟨by simpa using hHM.out.1, by have := hHM.out.2; omega⟩, hO2, hB2⟩
            case measure => simp; omega
          · have hlen : out.length ≤ 2000 := by
              have := hHM.out.2
              have := hHz.out
              have := hHy.out
              omega
            go_wp2_with (first
              | (refine x_ld Try.arrId rfl _ rfl _ _ rfl y.1 hly.out hy2.out ?_)
              | (refine x_bsl Try.arrId _ _ rfl rfl Try.underlying45 y.1 hly.out rfl ?_)
              | (at_builtin; refine x_app rfl _ _ 45 rfl w.heap.size 23 (.agg (bv z32).toArray) 32 32 Try.underlying45 Try.infoId rfl (by decide) _ out.length _ rfl hO2.out 1 (bv y.1) _ rfl rfl (by rw [bv_length, hly.out]) (bv_one y.1) (by omega) (by decide) hB2.out.size ?_))
            intro v' w1 hown1 hg1 _ _
            obtain ⟨A, cc, rfl⟩ := XK.own_slice hown1
            have hb1 : Hid (Go.RowKit.Below w.heap.size w w1) := Lib.hid (hB2.out.grown hg1 hB2.out.size (fun j e => (hO2.out.lt j e).1))
            have hown2 : Hid (w1.ownsRow w.heap.size 23 32 (.slice A (out.length + 1) cc) (out ++ [y]).length (flat (out ++ [y]))) := Lib.hid (by
              rw [flat_snoc, List.length_append]
              exact hown1)
            clear hown1 hg1 hB2 hO2
            go_wp2
            go_roundw
            case rel => exact ⟨us', vs', out ++ [y], a2, b2, (n - 1), (m - 1), (c - 1), (d - 1), rfl, rfl, by omega, by omega, by omega, by omega, hT1, hT, Lib.hid ⟨by have := hHM.out.1; simpa using this, by have := hHM.out.2; rw [List.length_append]; simp; omega⟩, hown2, hb1⟩
            case measure => simp; omega
        · go_wp2_with (refine x_al Try.arrId rfl rfl ?_)
          have hVT := Lib.hid (XK.there_new V1 23)
          have hTX := Lib.hid hB9.out.size
          have hVB := Lib.hid (hB9.out.alloc hB9.out.size (.cells (bv z32).toArray 23))
          have hVO := Lib.hid (hO9.out.alloc (.cells (bv z32).toArray 23))
          have hVn := Lib.hid (XK.own_ne hO9.out)
          clear hB9 hO9
          generalize V1.alloc (.cells (bv z32).toArray 23) = V at hVT hVB hVO ⊢
          generalize V1.heap.size = T at hVT hTX hVn ⊢
          refine wp_region_held (S := fun w' => Go.RowKit.Below w.heap.size w w') (by kernel_rfl) ?_
          have hS : Go.RowKit.Below w.heap.size w { V with drawn := V.drawn + 1 } := hVB.out.drew
          refine h_val (i := 0) (v := ?_) rfl (by kernel_rfl) (by kernel_rfl) (by kernel_rfl) (fun _ _ _ h => h) rfl ?_ hS ?_
          rotate_left
          · intro W hW
            go_simp
            try exact rfl
          try simp only [Act.put, List.getElem_toArray, List.getElem_cons_zero, List.getElem_cons_succ, List.setIfInBounds_toArray, List.set_cons_zero, List.set_cons_succ]
          refine h_val (i := 1) (v := ?_) rfl (by kernel_rfl) (by kernel_rfl) (by kernel_rfl) (fun _ _ _ h => h) rfl ?_ hS ?_
          rotate_left
          · intro W hW
            go_simp
            try exact rfl
          try simp only [Act.put, List.getElem_toArray, List.getElem_cons_zero, List.getElem_cons_succ, List.setIfInBounds_toArray, List.set_cons_zero, List.set_cons_succ]
          refine h_val (i := 2) rfl (by kernel_rfl) (by kernel_rfl) (by kernel_rfl) (fun _ _ _ h => h) rfl (fun W hW => run_ld Try.arrId _ rfl g off rfl y.1 hly.out (range_below hW hg hg0.out)) hS ?_
          try simp only [Act.put, List.getElem_toArray, List.getElem_cons_zero, List.getElem_cons_succ, List.setIfInBounds_toArray, List.set_cons_zero, List.set_cons_succ]
          refine h_val (i := 3) (v := ?_) rfl (by kernel_rfl) (by kernel_rfl) (by kernel_rfl) (fun _ _ _ h => h) rfl ?_ hS ?_
          rotate_left
          · intro W hW
            go_simp
            try exact rfl
          try simp only [Act.put, List.getElem_toArray, List.getElem_cons_zero, List.getElem_cons_succ, List.setIfInBounds_toArray, List.set_cons_zero, List.set_cons_succ]
          refine h_val (i := 4) (v := ?_) rfl (by kernel_rfl) (by kernel_rfl) (by kernel_rfl) (fun _ _ _ h => h) rfl ?_ hS ?_
          rotate_left
          · intro W hW
            go_simp
            try exact rfl
          try simp only [Act.put, List.getElem_toArray, List.getElem_cons_zero, List.getElem_cons_succ, List.setIfInBounds_toArray, List.set_cons_zero, List.set_cons_succ]
          have hst := store_new (V := { V with drawn := V.drawn + 1 }) hVT.out hTX.out hS (ty := 23) hVO.out hVn.out y
          refine h_skip (i := 5) (by kernel_rfl) rfl rfl (run_st Try.arrId _ _ rfl T 0 rfl y.1 rfl hly.out hVT.out) hst.2.1 ?_
          try simp only [Act.put, List.getElem_toArray, List.getElem_cons_zero, List.getElem_cons_succ, List.setIfInBounds_toArray, List.set_cons_zero, List.set_cons_succ]
          refine h_val (i := 6) (v := .slice b2 (m - 1) (d - 1)) rfl (by kernel_rfl) (by kernel_rfl) (by kernel_rfl) (fun _ _ _ h => h) rfl (fun _ _ => rfl) hst.2.1 ?_
          try simp only [Act.put, List.getElem_toArray, List.getElem_cons_zero, List.getElem_cons_succ, List.setIfInBounds_toArray, List.set_cons_zero, List.set_cons_succ]
          refine wpAnyH_done (by kernel_rfl) ?_ _
          replace hVT := Lib.hid hst.1
          replace hVB := Lib.hid hst.2.1
          replace hVO := Lib.hid hst.2.2.1
          have hVyy := Lib.hid hst.2.2.2
          clear hS hst
          generalize World.setCells { V with drawn := V.drawn + 1 } T 0 (bv y.1) = V at hVT hVB hVO hVyy ⊢
          obtain ⟨kb, hkb⟩ : ∃ kb, keep false true = kb := ⟨_, rfl⟩
          have hkk := hk false true
          rw [hkb] at hkk
          have hMm := hM.out
          rw [mrg, hHkc.out, if_neg (by decide), if_pos (by decide)] at hMm
          rw [hkb] at hMm
          have hHM := Lib.hid hMm
          clear hMm hM hkb
          go_wp2
          refine (hkk _).mono ?_
          rintro e V2 ⟨rfl, hb2⟩
          have hTl := XK.there_lt hVT.out
          have hy2 := Lib.hid (range_below hb2 hTl hVyy.out)
          have hO2 := Lib.hid (XK.own_below hVO.out hb2)
          have hB2 := Lib.hid (hVB.out.trans (hb2.mono hVB.out.size))
          clear hVT hVyy hVO hVB hb2 hVn hTX hTl
          cases kb
          · go_wp2
            go_roundw
            case rel =>
              obtain ⟨A, cc, rfl⟩ := XK.own_slice hO2.out
              exact ⟨(x :: us'), vs', out, (some ⟨g1, off1, none⟩), b2, n, (m - 1), c, (d - 1), rfl, rfl, by omega, by omega, by omega, by omega, hA, hT, Lib.hid ⟨by simpa using hHM.out.1, by have := hHM.out.2; omega⟩, hO2, hB2⟩
            case measure => simp; omega
          · have hlen : out.length ≤ 2000 := by
              have := hHM.out.2
              have := hHz.out
              have := hHy.out
              omega
            go_wp2_with (first
              | (refine x_ld Try.arrId rfl _ rfl _ _ rfl y.1 hly.out hy2.out ?_)
              | (refine x_bsl Try.arrId _ _ rfl rfl Try.underlying45 y.1 hly.out rfl ?_)
              | (at_builtin; refine x_app rfl _ _ 45 rfl w.heap.size 23 (.agg (bv z32).toArray) 32 32 Try.underlying45 Try.infoId rfl (by decide) _ out.length _ rfl hO2.out 1 (bv y.1) _ rfl rfl (by rw [bv_length, hly.out]) (bv_one y.1) (by omega) (by decide) hB2.out.size ?_))
            intro v' w1 hown1 hg1 _ _
            obtain ⟨A, cc, rfl⟩ := XK.own_slice hown1
            have hb1 : Hid (Go.RowKit.Below w.heap.size w w1) := Lib.hid (hB2.out.grown hg1 hB2.out.size (fun j e => (hO2.out.lt j e).1))
            have hown2 : Hid (w1.ownsRow w.heap.size 23 32 (.slice A (out.length + 1) cc) (out ++ [y]).length (flat (out ++ [y]))) := Lib.hid (by
              rw [flat_snoc, List.length_append]
              exact hown1)
            clear hown1 hg1 hB2 hO2
            go_wp2
            go_roundw
            case rel => exact ⟨(x :: us'), vs', out ++ [y], (some ⟨g1, off1, none⟩), b2, n, (m - 1), c, (d - 1), rfl, rfl, by omega, by omega, by omega, by omega, hA, hT, Lib.hid ⟨by have := hHM.out.1; simpa using this, by have := hHM.out.2; rw [List.length_append]; simp; omega⟩, hown2, hb1⟩
            case measure => simp; omega
end Go.Proofs
