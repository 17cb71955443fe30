/- msgid.Set: the sorted list without neighbours that are equal -/
import Derived.Test.YtfgadmiencgmgaaCompact
namespace Go.Proofs
open Go.RowKit Go.Shelf XK Go.Sort
attribute [local go_sem] Oper.semAt_some
set_option linter.unusedVariables false
namespace XK
/-- a list of identities of the call's own -/
def OwnIds (n₀ : Nat) (W : World) (v : Value) (zs : List I32) : Prop :=
  (v = .slice none 0 0 ∧ zs = []) ∨ ∃ g cap, v = .slice (some ⟨g, 0, none⟩) zs.length cap ∧ n₀ ≤ g ∧ zs.length ≤ cap ∧ g < W.heap.size ∧ Row W g zs.toArray
theorem OwnIds.ids {n₀ : Nat} {W : World} {v : Value} {zs : List I32} : OwnIds n₀ W v zs → Ids W.heap.size W v zs
  | .inl e => .inl ⟨⟨none, 0, e.1⟩, e.2⟩
  | .inr ⟨g, cap, e, _, _, hg, hr⟩ => .inr ⟨g, 0, cap, e, hg, fun j hj => by
      have := (hr j (by simpa using hj)).1
      rw [getElem!_pos zs.toArray j (by simpa using hj)] at this
      rw [Nat.zero_add]
      simpa using this⟩
theorem row_of_holds {W : World} {b : Nat} {d : Array I32} (h : HoldsK enc 32 W b 0 d) : Row W b d := fun j hj => by
  have hk : ∀ c, c < 32 → W.cell? ⟨b, j * 32 + c, none⟩ = some (enc d[j]!)[c]! ∧ W.frozen? ⟨b, j * 32 + c, none⟩ = false := fun c hc => by
    have := h.cell hj hc
    rwa [Nat.zero_add] at this
  constructor
  · intro c v hv
    have hc : c < (bv d[j]!.1).length := (List.getElem?_eq_some_iff.1 hv).1
    have hc' : c < 32 := by rwa [bv_length, d[j]!.2] at hc
    rw [(hk c hc').1]
    unfold enc
    rw [getElem!_pos (bv d[j]!.1) c hc]
    rw [List.getElem?_eq_getElem hc] at hv
    exact hv
  · intro c hc
    rw [(hk c hc).1]
    exact ⟨rfl, (hk c hc).2⟩
theorem below_sort {n₀ : Nat} {w : World} {b : Nat} (hb : n₀ ≤ b) (hn : n₀ ≤ w.heap.size) (n : Nat) (d : Array I32) (os : Array Obj) : Go.RowKit.Below n₀ w (sortWorldK enc 32 w b 0 n d os) := by
  refine ⟨rfl, rfl, rfl, size_sortWorldK_c enc 32 w b 0 n d os, fun k hk => ?_⟩
  show ((w.heap.modify b _) ++ os)[k]? = w.heap[k]?
  rw [Array.getElem?_append_left (by rw [Array.size_modify]; omega), Array.getElem?_modify, if_neg (by omega)]
end XK
theorem Try.sortRow (zs : List I32) (hlim : zs.length ≤ 1000) (n₀ g cap : Nat) (hg : n₀ ≤ g) (cur : Array Value) (w : World) (hn : n₀ ≤ w.heap.size) (hc : w.heap[g]? = some (.cells cur 23 (0, 0))) (ht : cur.toList.take (zs.length * 32) = flat zs) :
    Calls Try.prog 55 #[.slice (some ⟨g, 0, none⟩) zs.length cap, .func (.func 17) #[] #[]] w fun e w' => e = .returned (.tuple #[]) ∧ Row w' g (srt zs).toArray ∧ Go.RowKit.Below n₀ w w' := by
  have eg : ∀ args w, (callFunc 17 args).run Try.prog w = .ok (.enter 17 args) w := enters_of Try.func17 (by kernel_rfl) rfl
  have hH := XK.holds_own hc ht
  have hblk : g < w.heap.size := (Array.getElem?_eq_some_iff.1 hc).1
  have hcon := AnyQ.slices_SortFunc_total Try.sortId 32 Try.isAgg23 Try.sizeOf23 enc (fun x => by rw [enc, bv_length, x.2]) (fun x v hv => bv_one x.1 v hv) cf swo 17 #[] g 0 cap zs.toArray w eg (Try.cmpLays g 0 zs.toArray.size w) hH hblk (by simp; omega) total
  change Calls Try.prog 55 _ _ _ at hcon
  rw [List.size_toArray] at hcon
  refine hcon.mono ?_
  rintro e w' ⟨he, n, os, rfl⟩
  refine ⟨he, ?_, XK.below_sort hg hn _ _ _⟩
  exact XK.row_of_holds (holdsK_sortWorldK_c enc 32 w g 0 zs.toArray _ n os hH hblk (by simp))
theorem Try.collect (zs : List I32) (hlim : zs.length ≤ 1000) (sv : Value) (Bs : Nat) (w : World) (hBs : Bs < w.heap.size) (hc : w.cell? ⟨Bs, 0, none⟩ = some sv) (hI : Ids w.heap.size w sv zs) :
    Calls Try.prog 54 #[.func (.func 56) #[] #[.pointer (some ⟨Bs, 0, none⟩)]] w fun e W' => ∃ v, e = .returned v ∧ W'.ownsRow w.heap.size 23 32 v zs.length (flat zs) ∧ (v = .slice none 0 0 ↔ zs = []) ∧ Go.RowKit.Below w.heap.size w W' := by
  have hap := callsIn_wide.1 (Try.appendSeq_in Fence.wide 4 trivial trivial rfl (by decide) #[.pointer (some ⟨Bs, 0, none⟩)] zs hlim w (Try.values_stops Fence.wide 3 trivial rfl (by decide) Bs w.heap.size sv zs hlim w hBs (Nat.le_refl _) hc hI))
  clear hc hI
  go_enter Try.func54, Try.ntmps54
  go_wp2_with (go_at_call 60; refine hap.mono ?_; rintro e w' ⟨v, rfl, h1, h2, h3⟩)
  go_ret
  exact ⟨v, rfl, h1, h2, h3⟩
theorem Try.values (a : Option Addr) (len cap : Nat) (w : World) : Calls Try.prog 42 #[.slice a len cap] w fun e w' => e = .returned (.func (.func 56) #[] #[.pointer (some ⟨w.heap.size, 0, none⟩)]) ∧ w' = w.alloc (.cells #[.slice a len cap] 45) :=
  callsIn_wide.1 (Try.values_in Fence.wide 2 trivial rfl a len cap w)
/-- slices.SortedFunc -/
theorem Try.sortedFunc (zs : List I32) (hlim : zs.length ≤ 1000) (sv : Value) (Bs : Nat) (w : World) (hBs : Bs < w.heap.size) (hc : w.cell? ⟨Bs, 0, none⟩ = some sv) (hI : Ids w.heap.size w sv zs) :
    Calls Try.prog 41 #[.func (.func 56) #[] #[.pointer (some ⟨Bs, 0, none⟩)], .func (.func 17) #[] #[]] w fun e W' => ∃ v, e = .returned v ∧ OwnIds w.heap.size W' v (srt zs) ∧ Go.RowKit.Below w.heap.size w W' := by
  have hcl := Try.collect zs hlim sv Bs w hBs hc hI
  clear hc hI
  have hsl : (srt zs).length = zs.length := by simp [srt]
  by_cases hz : zs = []
  · subst hz
    have hcl' := hcl.mono (fun e w' (h : ∃ v, _) => (by
      obtain ⟨v, h1, h2, h3, h4⟩ := h
      exact ⟨by rw [h1, h3.2 rfl], h4⟩ : e = .returned (.slice none 0 0) ∧ Go.RowKit.Below w.heap.size w w'))
    have hno := fun W => AnyF.slices_SortFunc_none Try.sortId none 0 (.func (.func 17) #[] #[]) W
    change ∀ W, Calls Try.prog 55 _ _ _ at hno
    clear hcl
    go_enter Try.func41, Try.ntmps41
    go_wp2_with (first
      | (go_at_call 54; refine hcl'.mono ?_; rintro e w1 ⟨rfl, hb1⟩)
      | (go_at_call 55; refine (hno _).mono ?_; rintro e w2 ⟨rfl, rfl⟩))
    go_ret
    exact ⟨.slice none 0 0, rfl, .inl ⟨rfl, by simp [srt]⟩, hb1⟩
  · have hcl' := hcl.mono (fun e w' (h : ∃ v, _) => (by
      obtain ⟨v, h1, h2, h3, h4⟩ := h
      rcases h2.2 with ⟨hv, _⟩ | ⟨g, cap, cur, hv, hg, hh, hcap, _, hcs, hcu⟩
      · exact absurd (h3.1 hv) hz
      · exact ⟨g, cap, cur, by rw [h1, hv], hg, hcap, Lib.hid ⟨hh, hcu⟩, h4⟩ : ∃ g cap cur, e = .returned (.slice (some ⟨g, 0, none⟩) zs.length cap) ∧ w.heap.size ≤ g ∧ zs.length ≤ cap ∧ Hid (w'.heap[g]? = some (.cells cur 23 (0, 0)) ∧ cur.toList.take (zs.length * 32) = flat zs) ∧ Go.RowKit.Below w.heap.size w w'))
    clear hcl
    go_enter Try.func41, Try.ntmps41
    go_wp2_with (first
      | (go_at_call 54; refine hcl'.mono ?_; rintro e w1 ⟨g, cap, cur, rfl, hg, hcap, hH, hb1⟩)
      | (go_at_call 55; refine (Try.sortRow zs hlim w.heap.size g cap hg cur w1 hb1.size hH.out.1 hH.out.2).mono ?_; rintro e w2 ⟨rfl, hR2, hb2⟩))
    go_ret
    refine ⟨.slice (some ⟨g, 0, none⟩) zs.length cap, rfl, .inr ⟨g, cap, by rw [hsl], hg, by rw [hsl]; exact hcap, ?_, hR2⟩, hb1.trans hb2⟩
    have := (Array.getElem?_eq_some_iff.1 hH.out.1).1
    have := hb2.size
    omega
theorem Try.compactNil (w : World) : Calls Try.prog 40 #[.slice none 0 0] w fun e w' => e = .returned (.slice none 0 0) ∧ w' = w := by
  go_enter Try.func40, Try.ntmps40
  go_wp2
  go_ret
  exact ⟨rfl, rfl⟩
/-- the set of a list -/
def XK.sset (zs : List I32) : List I32 := Lib.compactUpTo (srt zs).toArray (srt zs).toArray.size
theorem Try.set (zs : List I32) (hlim : zs.length ≤ 1000) (sv : Value) (w : World) (hI : Ids w.heap.size w sv zs) :
    Calls Try.prog 24 #[sv] w fun e W' => ∃ v, e = .returned v ∧ OwnIds w.heap.size W' v (sset zs) ∧ Go.RowKit.Below w.heap.size w W' := by
  obtain ⟨a, len, cap0, rfl⟩ : ∃ a len cap, sv = .slice a len cap := by
    rcases hI with ⟨⟨a, cap, rfl⟩, _⟩ | ⟨b, off, cap, rfl, _⟩
    · exact ⟨_, _, _, rfl⟩
    · exact ⟨_, _, _, rfl⟩
  have hB0 : Go.RowKit.Below w.heap.size w (w.alloc (.cells #[.slice a len cap0] 45)) := (Go.RowKit.Below.refl _ w).alloc (Nat.le_refl _) _
  have hsf := Try.sortedFunc zs hlim (.slice a len cap0) w.heap.size (w.alloc (.cells #[.slice a len cap0] 45)) (by simp) (Boxed.new w 45 (.slice a len cap0)).cell ((hI.below hB0).mono (by simp))
  have hsl : Hid ((srt zs).length = zs.length) := Lib.hid (by simp [srt])
  have hv := Try.values a len cap0 w
  have hsf2 := hsf.mono (fun e w' (h : ∃ v, _) => (by
    obtain ⟨v, h1, h2, h3⟩ := h
    exact ⟨v, h1, Lib.hid h2, Lib.hid (hB0.trans (h3.mono (by simp)))⟩ : ∃ v, e = .returned v ∧ Hid (OwnIds (w.alloc (.cells #[.slice a len cap0] 45)).heap.size w' v (srt zs)) ∧ Hid (Go.RowKit.Below w.heap.size w w')))
  clear hsf hI hB0
  go_enter Try.func24, Try.ntmps24
  go_wp2_with (first
    | (go_at_call 42; refine hv.mono ?_; rintro e w1 ⟨rfl, rfl⟩)
    | (go_at_call 41; refine hsf2.mono ?_; rintro e w2 ⟨v, rfl, hO, hb⟩))
  rcases hO.out with ⟨rfl, hz⟩ | ⟨g, cap, rfl, hg, hcap, hgl, hR⟩
  · refine (Try.compactNil _).mono ?_
    rintro e w3 ⟨rfl, rfl⟩
    go_wp2
    go_ret
    exact ⟨.slice none 0 0, rfl, .inl ⟨rfl, by rw [sset, hz]; rfl⟩, hb.out⟩
  · have hco := Try.compactRow (srt zs).toArray g cap (by simpa using hcap) (by rw [List.size_toArray, hsl.out]; exact hlim) w.heap.size (by simp at hg; omega) w2 hR
    rw [List.size_toArray, show Lib.compactUpTo (srt zs).toArray (srt zs).length = sset zs by rw [sset, List.size_toArray]] at hco
    refine hco.mono ?_
    rintro e w3 ⟨rfl, hR3, hb3⟩
    go_wp2
    go_ret
    refine ⟨.slice (some ⟨g, 0, none⟩) (sset zs).length cap, rfl, .inr ⟨g, cap, rfl, by simp at hg; omega, ?_, ?_, hR3⟩, hb.out.trans hb3⟩
    · have : (sset zs).length ≤ (srt zs).length := by
        rw [sset, Lib.compactUpTo, List.length_map, List.size_toArray]
        exact Nat.le_trans (List.length_filter_le _ _) (by simp)
      omega
    · have := hb3.size; omega
end Go.Proofs
