/- slices.Compact over a list of identities of the call's own -/
import Derived.Test.YtfgadmiencgmgaaSort
import Derived.Test.YtfgadmiencgmgaaQuiet
import Derived.Lib.SlicesCompact
import Derived.Lib.SliceRun
import Derived.IntWalk
namespace Go.Proofs
open Go.RowKit XK Go.Sort
set_option linter.unusedVariables false
namespace XK
/-- the row in block b holds these identities, and they may be written -/
def Row (W : World) (b : Nat) (d : Array I32) : Prop := ∀ j, j < d.size → W.rangeAt b (j * 32) (bv d[j]!.1) ∧ W.there b (j * 32) 32
theorem Row.below {n₀ : Nat} {A B : World} {b : Nat} {d : Array I32} (h : Go.RowKit.Below n₀ A B) (hb : b < n₀) (hr : Row A b d) : Row B b d := fun j hj => by
  refine ⟨range_below h hb (hr j hj).1, fun i hi => ?_⟩
  have := (hr j hj).2 i hi
  rw [h.cell (p := ⟨b, j * 32 + i, none⟩) hb, h.frozen (p := ⟨b, j * 32 + i, none⟩) hb]
  exact this
theorem Row.drewN {W : World} {b : Nat} {d : Array I32} (h : Row W b d) (n : Nat) : Row (W.drewN n) b d := h
theorem Row.set {W : World} {b : Nat} {d : Array I32} (h : Row W b d) {i : Nat} (hi : i < d.size) (x : I32) : Row (W.setCells b (i * 32) (bv x.1)) b (d.setIfInBounds i x) := fun j hj => by
  have hj' : j < d.size := by simpa using hj
  have hlx : (bv x.1).length = 32 := by rw [bv_length, x.2]
  by_cases hij : j = i
  · subst hij
    rw [getElem!_set_same d j x hj']
    constructor
    · intro c v hv
      have hc : c < (bv x.1).length := (List.getElem?_eq_some_iff.1 hv).1
      rw [World.cell?_setCells_in b (bv x.1) (j * 32) W (fun t ht => ((h j hj').2 t (by omega)).1) c hc]
      rw [List.getElem?_eq_getElem hc] at hv
      exact hv
    · intro c hc
      rw [World.cell?_setCells_in b (bv x.1) (j * 32) W (fun t ht => ((h j hj').2 t (by omega)).1) c (by omega), World.frozen?_setCells]
      exact ⟨rfl, ((h j hj').2 c hc).2⟩
  · rw [getElem!_set_other d i j x hij]
    have out : ∀ c, c < 32 → (W.setCells b (i * 32) (bv x.1)).cell? ⟨b, j * 32 + c, none⟩ = W.cell? ⟨b, j * 32 + c, none⟩ := fun c hc =>
      World.cell?_setCells_out b (bv x.1) (i * 32) W _ (fun _ _ => by show j * 32 + c < i * 32 ∨ _ ≤ j * 32 + c; rw [hlx]; omega)
    constructor
    · intro c v hv
      have hc : c < 32 := by have := (List.getElem?_eq_some_iff.1 hv).1; rwa [bv_length, d[j]!.2] at this
      rw [out c hc]
      exact (h j hj').1 c v hv
    · intro c hc
      rw [out c hc, World.frozen?_setCells]
      exact (h j hj').2 c hc
theorem below_setCells {B : Nat} {a : World} (b : Nat) (hb : B ≤ b) : ∀ (vs : List Value) (o : Nat) (w : World), Go.RowKit.Below B a w → Go.RowKit.Below B a (w.setCells b o vs)
  | [], _, _, h => h
  | v :: vs, o, w, h => by
    rw [World.setCells]
    exact below_setCells b hb vs (o + 1) _ (h.setCell (p := ⟨b, o, none⟩) hb v)
theorem classD (V : World) : ∃ C : World → Prop, C { V with drawn := V.drawn + 1 } ∧ (∀ w, C w → ∃ n, w = V.drewN n) := ⟨fun w => ∃ n, w = V.drewN n, ⟨1, rfl⟩, fun _ h => h⟩
theorem beq_sub (x y : I32) : (x.1 == y.1) = decide (x = y) := by
  by_cases h : x = y
  · simp [h]
  · have : x.1 ≠ y.1 := fun e => h (Subtype.ext e)
    simp [h, this]
theorem run_clear {P : Program} {T e S : TypeId} (A : Arr P T e) (hS : P.underlying S = some (.slice T)) (w : World) (b o n c : Nat) (hn : 0 < n) (hc : w.there b o (n * 32)) :
    ∃ vs : List Value, vs.length = n * 32 ∧ ∀ ty, (Builtin.clear_ #[S] ty #[.slice (some ⟨b, o, none⟩) n c]).run P w = .ok (.tuple #[]) (w.setCells b o vs) := by
  refine ⟨(Builtin.zeroCells (bv z32).toArray n).toList, ?_, fun ty => ?_⟩
  · simp [Builtin.zeroCells, bv_length, z32]
  · obtain ⟨m, rfl⟩ : ∃ m, n = m + 1 := ⟨n - 1, by omega⟩
    have hl : (Builtin.zeroCells (bv z32).toArray (m + 1)).toList.length = (m + 1) * 32 := by simp [Builtin.zeroCells, bv_length, z32]
    have hst := run_storeCells_cells (P := P) b o (Builtin.zeroCells (bv z32).toArray (m + 1)).toList 0 w (fun j hj => by rw [Nat.add_zero]; exact (hc j (by omega)).1) (fun j hj => by rw [Nat.add_zero]; exact (hc j (by omega)).2) (fun v hv => by
      simp only [Builtin.zeroCells, Array.toList_map, List.mem_map] at hv
      obtain ⟨i, _, rfl⟩ := hv
      have hi : i % (bv z32).toArray.size < (bv z32).toArray.size := Nat.mod_lt _ (by decide)
      rw [getElem!_pos (bv z32).toArray _ hi]
      exact bv_one z32 _ (Array.mem_toList_iff.2 (Array.getElem_mem hi)))
    simp only [Nat.add_zero] at hst
    simp [Builtin.clear_, run_underlying hS, zeroValue_of A.zt, Value.cells, hst]
theorem row_low {W : World} {b : Nat} {dk d : Array I32} {l : List I32} {k : Nat} {vs : List Value} (h : Row W b dk) (hs : dk.size = d.size) (hl : l.length = k) (hlow : ∀ j, j < k → l[j]? = some dk[j]!) (hk : k ≤ d.size) : Row (W.setCells b (k * 32) vs) b l.toArray := fun j hj => by
  have hj' : j < k := by simpa [hl] using hj
  have hx : l.toArray[j]! = dk[j]! := by
    have h1 := hlow j hj'
    have h2 : j < l.length := by omega
    rw [List.getElem?_eq_getElem h2] at h1
    rw [getElem!_pos l.toArray j (by simpa using h2)]
    simpa using h1
  rw [hx]
  have out : ∀ c, c < 32 → (W.setCells b (k * 32) vs).cell? ⟨b, j * 32 + c, none⟩ = W.cell? ⟨b, j * 32 + c, none⟩ := fun c hc =>
    World.cell?_setCells_out b vs (k * 32) W _ (fun _ _ => .inl (by show j * 32 + c < k * 32; omega))
  have hr := h j (by omega)
  constructor
  · intro c v hv
    have hc : c < 32 := by have := (List.getElem?_eq_some_iff.1 hv).1; rwa [bv_length, dk[j]!.2] at this
    rw [out c hc]
    exact hr.1 c v hv
  · intro c hc
    rw [out c hc, World.frozen?_setCells]
    exact hr.2 c hc
theorem q_net {P : Program} {T e : TypeId} {ops : Array Oper} {rest : List Oper} {o : Oper} {a : Act} {C : World → Prop} {Q : Act → Prop} (A : Arr P T e) (x y : Operand) (r : TypeId) (ho : o.op = .binOp .neq T x y r) (hw : Region.wanted o (yielded ops a.tmps) = true) (l m : List UInt8) (hx : a.eval x = .agg (bv l).toArray) (hy : a.eval y = .agg (bv m).toArray) (hl : l.length = 32) (hm : m.length = 32) (b : Bool) (he : (!(l == m)) = b)
    (h : wpQuiet P ops C Q rest (a.put o.dst (.bool b))) : wpQuiet P ops C Q (o :: rest) a :=
  q_val hw (fun w _ => by
    have := run_neq_bytes (P := P) w T e 32 x y A.ut A.ue A.se A.gt l m hl hm
    rw [he] at this
    unfold execOp
    simp only [ho, hx, hy]
    rw [Sem.run_bind, this]
    rfl) h
end XK
set_option maxRecDepth 100000 in
set_option maxHeartbeats 4000000 in
theorem Try.compactRow (d : Array I32) (b cap : Nat) (hcap : d.size ≤ cap) (hlim : d.size ≤ 1000) (n₀ : Nat) (hb : n₀ ≤ b) (w : World) (hR : Row w b d) :
    Calls Try.prog 40 #[.slice (some ⟨b, 0, none⟩) d.size cap] w fun e w' => e = .returned (.slice (some ⟨b, 0, none⟩) (Lib.compactUpTo d d.size).length cap) ∧ Row w' b (Lib.compactUpTo d d.size).toArray ∧ Go.RowKit.Below n₀ w w' := by
  have same : (∀ j, j < d.size → Lib.keeps d j = true) → Lib.compactUpTo d d.size = d.toList := fun hall => by
    rw [Lib.compactUpTo_all d _ hall, Lib.range_map_get]
  by_cases h2 : d.size < 2
  · have e := same (fun j hj => Lib.keeps_lt_one d j (by omega))
    rw [e, Array.toArray_toList, Array.length_toList]
    go_enter Try.func40, Try.ntmps40
    go_wp2
    go_ret
    exact ⟨rfl, hR, Go.RowKit.Below.refl _ _⟩
  · have HS := Lib.hid same
    have HR := Lib.hid hR
    clear same hR
    go_enter Try.func40, Try.ntmps40
    go_wp2
    go_loopw [3] (fun s3 wr => ∃ k : Nat, 1 ≤ k ∧ k ≤ d.size ∧ s3 = .int .i64 k ∧ Hid (Row wr b d) ∧ Hid (Go.RowKit.Below n₀ w wr) ∧ Hid (∀ j, j < k → Lib.keeps d j = true)) (fun s3 _ => d.size - (intOf s3).toNat)
    case atStart => exact ⟨1, Nat.le_refl _, by omega, rfl, HR, Lib.hid (Go.RowKit.Below.refl _ _), Lib.hid (Lib.keeps_lt_one d)⟩
    case round =>
      obtain ⟨k, hk1, hk, rfl, hRr, hBr, hall⟩ := hrel
      by_cases hlt : k < d.size
      · have hR1 := Lib.hid (hRr.out k hlt)
        have hR0 := Lib.hid (hRr.out (k - 1) (by omega))
        obtain ⟨x, hx⟩ : ∃ x, d[k]! = x := ⟨_, rfl⟩
        obtain ⟨y, hy⟩ : ∃ y, d[k - 1]! = y := ⟨_, rfl⟩
        rw [hx] at hR1
        rw [hy] at hR0
        have hHx := Lib.hid hx
        have hHy := Lib.hid hy
        clear hx hy
        obtain ⟨C, hC1, hCn⟩ := XK.classD wr
        have hC1' := Lib.hid hC1
        have hCn' := Lib.hid hCn
        clear hC1 hCn
        have i0 : (0 : Int) ≤ k := by omega
        have i7 : (1 : Int) ≤ k := by omega
        have i1 : (k : Int) < d.size := by omega
        have i2 : (k : Int).toNat = k := by omega
        have i3 : IntKind.i64.wrap ((k : Int) - 1) = (k : Int) - 1 := IntWalk.i64_in _ (by omega)
        have i4 : ((k : Int) - 1).toNat = k - 1 := by omega
        have i5 : (0 : Int) ≤ (k : Int) - 1 := by omega
        have i6 : (k : Int) - 1 < d.size := by omega
        go_wp2_with fail
        refine q_region C (by kernel_rfl) (by kernel_rfl) hC1'.out ?_
        repeat (first
          | (refine q_ld Try.arrId _ rfl rfl b (k * 32) rfl x.1 x.2 (fun W hW => by obtain ⟨n, rfl⟩ := hCn'.out W hW; exact hR1.out.1) ?_)
          | (refine q_ld Try.arrId _ rfl rfl b ((k - 1) * 32) rfl y.1 y.2 (fun W hW => by obtain ⟨n, rfl⟩ := hCn'.out W hW; exact hR0.out.1) ?_)
          | (refine q_eqt Try.arrId _ _ _ rfl rfl x.1 y.1 rfl rfl x.2 y.2 (decide (x = y)) (XK.beq_sub x y) ?_)
          | (refine wpQuiet_step (fun K hK => ?_)
             go_simp
             first
             | (refine hK _ ?_; clear hK K)
             | (apply Exists.intro
                refine ⟨fun W hW => ?_, hK _ ?_⟩
                first
                | exact rfl
                | exact ⟨rfl, rfl⟩
                clear hK K)))
        refine wpQuiet_nil ?_
        intro V2 hV2
        obtain ⟨n, rfl⟩ := hCn'.out V2 hV2
        have hBn := Lib.hid (XK.below_drewN hBr.out n)
        have hRn := Lib.hid (hRr.out.drewN n)
        clear hV2 hRr hBr hC1' hCn' hR1 hR0
        generalize wr.drewN n = V at hBn hRn ⊢
        by_cases hxy : x = y
        · have i8 : decide (x = y) = true := by simp [hxy]
          go_wp2
          have hI0 := Lib.hid (Lib.CompInv.start hall.out (Lib.keeps_neg (by omega) (by rw [hHx.out, hHy.out, hxy])))
          clear hall
          go_loopw [3, 5] (fun s3 s5 wr => ∃ (kk k2 : Nat) (dk : Array I32), s3 = .int .i64 kk ∧ s5 = .int .i64 k2 ∧ 1 ≤ k2 ∧ k + k2 ≤ d.size ∧ Hid (Row wr b dk) ∧ Hid (Go.RowKit.Below n₀ w wr) ∧ Hid (Lib.CompInv d (k + k2) kk dk)) (fun _ s5 _ => d.size - k - (intOf s5).toNat)
          case atStart => exact ⟨k, 1, d, rfl, rfl, Nat.le_refl _, by omega, hRn, hBn, hI0⟩
          case round =>
            obtain ⟨kk, k2, dk, rfl, rfl, hk2, hle, hRk, hBk, hI⟩ := hrel
            have hkk := hI.out.lt
            have hds := hI.out.size
            have j0 : (0 : Int) ≤ k2 := by omega
            have j7 : (1 : Int) ≤ k2 := by omega
            have j2 : (k2 : Int).toNat = k2 := by omega
            have j3 : IntKind.i64.wrap ((k2 : Int) - 1) = (k2 : Int) - 1 := IntWalk.i64_in _ (by omega)
            have j4 : ((k2 : Int) - 1).toNat = k2 - 1 := by omega
            have j5 : (0 : Int) ≤ (k2 : Int) - 1 := by omega
            have l0 : (0 : Int) ≤ kk := by omega
            have l1 : (kk : Int) < d.size := by omega
            have l2 : (kk : Int).toNat = kk := by omega
            by_cases hlt2 : k + k2 < d.size
            · have j1 : (k2 : Int) < ((d.size - k : Nat) : Int) := by omega
              have j6 : (k2 : Int) - 1 < ((d.size - k : Nat) : Int) := by omega
              have hM := Lib.hid (hRk.out (k + k2) (by omega)).1
              have hP := Lib.hid (hRk.out (k + k2 - 1) (by omega)).1
              obtain ⟨u, hu⟩ : ∃ u, d[k + k2]! = u := ⟨_, rfl⟩
              obtain ⟨v, hv⟩ : ∃ v, d[k + k2 - 1]! = v := ⟨_, rfl⟩
              rw [hI.out.high (k + k2) (by omega), hu, show (k + k2) * 32 = k * 32 + k2 * 32 by omega] at hM
              rw [hI.out.high (k + k2 - 1) (by omega), hv, show (k + k2 - 1) * 32 = k * 32 + (k2 - 1) * 32 by omega] at hP
              have hHu := Lib.hid hu
              have hHv := Lib.hid hv
              clear hu hv
              obtain ⟨bq, hbq⟩ : ∃ bq, (!(u.1 == v.1)) = bq := ⟨_, rfl⟩
              have hBq := Lib.hid hbq
              clear hbq
              obtain ⟨C2, hD1, hDn⟩ := XK.classD wr
              have hD1' := Lib.hid hD1
              have hDn' := Lib.hid hDn
              clear hD1 hDn
              go_wp2_with fail
              refine q_region C2 (by kernel_rfl) (by kernel_rfl) hD1'.out ?_
              repeat (first
                | (refine q_ld Try.arrId _ rfl rfl b (k * 32 + k2 * 32) rfl u.1 u.2 (fun W hW => by obtain ⟨n, rfl⟩ := hDn'.out W hW; exact hM.out) ?_)
                | (refine q_ld Try.arrId _ rfl rfl b (k * 32 + (k2 - 1) * 32) rfl v.1 v.2 (fun W hW => by obtain ⟨n, rfl⟩ := hDn'.out W hW; exact hP.out) ?_)
                | (refine q_net Try.arrId _ _ _ rfl rfl u.1 v.1 rfl rfl u.2 v.2 bq hBq.out ?_)
                | (refine wpQuiet_step (fun K hK => ?_)
                   go_simp
                   first
                   | (refine hK _ ?_; clear hK K)
                   | (apply Exists.intro
                      refine ⟨fun W hW => ?_, hK _ ?_⟩
                      first
                      | exact rfl
                      | exact ⟨rfl, rfl⟩
                      clear hK K)))
              refine wpQuiet_nil ?_
              intro V2 hV2
              obtain ⟨n2, rfl⟩ := hDn'.out V2 hV2
              have hBm := Lib.hid (XK.below_drewN hBk.out n2)
              have hRm := Lib.hid (hRk.out.drewN n2)
              have hM2 : Hid ((wr.drewN n2).rangeAt b (k * 32 + k2 * 32) (bv u.1)) := Lib.hid hM.out
              clear hV2 hRk hBk hD1' hDn' hM hP
              generalize wr.drewN n2 = V' at hBm hRm hM2 ⊢
              cases bq
              · have huv : Hid (u = v) := Lib.hid (by have := hBq.out; rw [XK.beq_sub] at this; simpa using this)
                go_wp2
                go_roundw
                case rel => exact ⟨kk, k2 + 1, dk, rfl, by simp, by omega, by omega, hRm, hBm, Lib.hid (hI.out.skip (Lib.keeps_neg (by omega) (by rw [hHu.out, hHv.out, huv.out])))⟩
                case measure => simp [intOf]; omega
              · have huv : Hid (u ≠ v) := Lib.hid (by have := hBq.out; rw [XK.beq_sub] at this; simpa using this)
                have hlu := Lib.hid u.2
                go_wp2_with (first
                  | (refine x_ld Try.arrId rfl _ rfl _ _ rfl u.1 hlu.out hM2.out ?_)
                  | (refine x_st Try.arrId rfl _ _ rfl b (kk * 32) rfl u.1 rfl hlu.out (hRm.out kk (by omega)).2 ?_))
                go_roundw
                case rel =>
                  have hI2 := hI.out.keep hlt2 (Lib.keeps_pos (by rw [hHu.out, hHv.out]; exact huv.out))
                  rw [hHu.out] at hI2
                  exact ⟨kk + 1, k2 + 1, dk.setIfInBounds kk u, by simp, by simp, by omega, by omega, Lib.hid (hRm.out.set (by omega) u), Lib.hid (XK.below_setCells b hb _ _ _ hBm.out), Lib.hid hI2⟩
                case measure => simp [intOf]; omega
            · have hend : k + k2 = d.size := by omega
              obtain ⟨vs, hvl, hcl⟩ := XK.run_clear Try.arrId Try.underlying45 wr b (kk * 32) (d.size - kk) (cap - kk) (by omega) (fun j hj => by
                have := (hRk.out (kk + j / 32) (by omega)).2 (j % 32) (Nat.mod_lt _ (by decide))
                rw [show (kk + j / 32) * 32 + j % 32 = kk * 32 + j by omega] at this
                exact this)
              have hRz : Hid (Row (wr.setCells b (kk * 32) vs) b (Lib.compactUpTo d d.size).toArray) := Lib.hid (by
                have hI2 := hI.out
                rw [hend] at hI2
                exact XK.row_low hRk.out hI2.size hI2.len hI2.low (by omega))
              have hBz := Lib.hid (XK.below_setCells b hb vs (kk * 32) _ hBk.out)
              have hlen : (Lib.compactUpTo d d.size).length = kk := by
                have := hI.out.len
                rwa [hend] at this
              have hHl := Lib.hid hlen
              clear hlen hRk hBk
              generalize wr.setCells b (kk * 32) vs = Z at hcl hRz hBz
              go_wp2
              go_ret
              exact ⟨by rw [hHl.out]; rfl, hRz.out, hBz.out⟩
        · have i8 : decide (x = y) = false := by simp [hxy]
          go_wp2
          go_roundw
          case rel =>
            refine ⟨k + 1, by omega, by omega, by simp, hRn, hBn, Lib.hid fun j hj => ?_⟩
            by_cases e : j = k
            · subst e
              exact Lib.keeps_pos (by rw [hHx.out, hHy.out]; exact hxy)
            · exact hall.out j (by omega)
          case measure => simp [intOf]; omega
      · obtain rfl : k = d.size := by omega
        go_wp2
        go_ret
        have e := HS.out hall.out
        rw [e, Array.toArray_toList, Array.length_toList]
        exact ⟨rfl, hRr.out, hBr.out⟩
end Go.Proofs
