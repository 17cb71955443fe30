/- the law MsgidSets: for every two lists it answers true; it leaves all that was there as it was -/
import Derived.Test.YtfgadmiencgmgaaL10
import Derived.Test.YtfgadmiencgmgaaRPick
namespace Go.Proofs
open Go.RowKit Go.Shelf XK Go.Sort
set_option linter.unusedVariables false
set_option linter.unusedSimpArgs false
namespace XK
theorem sets1 (a b : List I32) : mrg kU (sset a) (sset b) = sset (a ++ b) := by
  refine asc_unique (mrg_asc _ _ _ (sset_asc _) (sset_asc _)) (sset_asc _) fun z => ?_
  rw [mem_mrg _ _ _ (sset_asc _) (sset_asc _)]
  simp only [mem_sset, kU, List.mem_append]
  by_cases h1 : z ∈ a <;> by_cases h2 : z ∈ b <;> simp [h1, h2]
theorem sets2 (a b : List I32) : mrg kM (sset a) (sset b) = sset (pck a b false) := by
  refine asc_unique (mrg_asc _ _ _ (sset_asc _) (sset_asc _)) (sset_asc _) fun z => ?_
  rw [mem_mrg _ _ _ (sset_asc _) (sset_asc _)]
  simp only [mem_sset, kM, pck, List.mem_filter, memb]
  by_cases h1 : z ∈ a <;> by_cases h2 : z ∈ b <;> simp [h1, h2]
theorem sets3 (a b : List I32) : mrg kB (sset a) (sset b) = sset (pck a b true) := by
  refine asc_unique (mrg_asc _ _ _ (sset_asc _) (sset_asc _)) (sset_asc _) fun z => ?_
  rw [mem_mrg _ _ _ (sset_asc _) (sset_asc _)]
  simp only [mem_sset, kB, pck, List.mem_filter, memb]
  by_cases h1 : z ∈ a <;> by_cases h2 : z ∈ b <;> simp [h1, h2]
end XK
set_option maxRecDepth 100000 in
set_option maxHeartbeats 4000000 in
theorem Try.msgidSets (zs ys : List I32) (a1 a2 : Option Addr) (n1 n2 c1 c2 : Nat) (e1 : n1 = zs.length) (e2 : n2 = ys.length) (hc1 : n1 ≤ c1) (hc2 : n2 ≤ c2) (w : World)
    (hI1 : Ids w.heap.size w (.slice a1 n1 c1) zs) (hI2 : Ids w.heap.size w (.slice a2 n2 c2) ys) :
    Calls Try.prog 9 #[.slice a1 n1 c1, .slice a2 n2 c2] w fun e w' => e = .returned (.bool true) ∧ Go.RowKit.Below w.heap.size w w' := by
  obtain ⟨m1, hm1⟩ : ∃ m, (min (n1 : Int) 40).toNat = m := ⟨_, rfl⟩
  obtain ⟨hJ1, hL1⟩ := Ids.cut 40 e1 hI1 hm1
  have s10 : (0 : Int) ≤ min (n1 : Int) 40 := by omega
  have s11 : min (n1 : Int) 40 ≤ c1 := by omega
  have s12 : min (n1 : Int) 40 ≤ n1 := by omega
  generalize zs.take 40 = p1 at hJ1 hL1
  have hK1 := Lib.hid hJ1
  obtain ⟨m2, hm2⟩ : ∃ m, (min (n2 : Int) 40).toNat = m := ⟨_, rfl⟩
  obtain ⟨hJ2, hL2⟩ := Ids.cut 40 e2 hI2 hm2
  have s20 : (0 : Int) ≤ min (n2 : Int) 40 := by omega
  have s21 : min (n2 : Int) 40 ≤ c2 := by omega
  have s22 : min (n2 : Int) 40 ≤ n2 := by omega
  generalize ys.take 40 = p2 at hJ2 hL2
  have hK2 := Lib.hid hJ2
  clear hI1 hI2 hJ1 hJ2 e1 e2
  have c0 := Try.known
  go_enter Try.func9, Try.ntmps9
  go_wp2_with fail
  refine wp_region_held (S := fun w' => Go.RowKit.Below w.heap.size w w') (by kernel_rfl) ?_
  have hS : Go.RowKit.Below w.heap.size w { w with drawn := w.drawn + 1 } := (Go.RowKit.Below.refl _ _).drew
  refine h_val (i := 0) (v := ?_) rfl (by kernel_rfl) (by kernel_rfl) (by kernel_rfl) (fun _ _ _ h => h) rfl ?_ hS ?_
  rotate_left
  · intro W hW
    go_simp
    try exact rfl
  try simp only [Act.put, List.getElem_toArray, List.getElem_cons_zero, List.getElem_cons_succ, List.setIfInBounds_toArray, List.set_cons_zero, List.set_cons_succ]
  refine h_val (i := 1) (v := ?_) rfl (by kernel_rfl) (by kernel_rfl) (by kernel_rfl) (fun _ _ _ h => h) rfl ?_ hS ?_
  rotate_left
  · intro W hW
    go_simp
    try exact rfl
  try simp only [Act.put, List.getElem_toArray, List.getElem_cons_zero, List.getElem_cons_succ, List.setIfInBounds_toArray, List.set_cons_zero, List.set_cons_succ]
  refine h_val (i := 2) (v := ?_) rfl (by kernel_rfl) (by kernel_rfl) (by kernel_rfl) (fun _ _ _ h => h) rfl ?_ hS ?_
  rotate_left
  · intro W hW
    go_simp
    try exact rfl
  try simp only [Act.put, List.getElem_toArray, List.getElem_cons_zero, List.getElem_cons_succ, List.setIfInBounds_toArray, List.set_cons_zero, List.set_cons_succ]
  refine h_val (i := 3) (v := ?_) rfl (by kernel_rfl) (by kernel_rfl) (by kernel_rfl) (fun _ _ _ h => h) rfl ?_ hS ?_
  rotate_left
  · intro W hW
    go_simp
    try exact rfl
  try simp only [Act.put, List.getElem_toArray, List.getElem_cons_zero, List.getElem_cons_succ, List.setIfInBounds_toArray, List.set_cons_zero, List.set_cons_succ]
  refine h_val (i := 4) (v := ?_) rfl (by kernel_rfl) (by kernel_rfl) (by kernel_rfl) (fun _ _ _ h => h) rfl ?_ hS ?_
  rotate_left
  · intro W hW
    go_simp
    try exact rfl
  try simp only [Act.put, List.getElem_toArray, List.getElem_cons_zero, List.getElem_cons_succ, List.setIfInBounds_toArray, List.set_cons_zero, List.set_cons_succ]
  refine h_val (i := 5) (v := ?_) rfl (by kernel_rfl) (by kernel_rfl) (by kernel_rfl) (fun _ _ _ h => h) rfl ?_ hS ?_
  rotate_left
  · intro W hW
    go_simp
    try exact rfl
  try simp only [Act.put, List.getElem_toArray, List.getElem_cons_zero, List.getElem_cons_succ, List.setIfInBounds_toArray, List.set_cons_zero, List.set_cons_succ]
  refine h_val (i := 6) (v := ?_) rfl (by kernel_rfl) (by kernel_rfl) (by kernel_rfl) (fun _ _ _ h => h) rfl ?_ hS ?_
  rotate_left
  · intro W hW
    go_simp
    try exact rfl
  try simp only [Act.put, List.getElem_toArray, List.getElem_cons_zero, List.getElem_cons_succ, List.setIfInBounds_toArray, List.set_cons_zero, List.set_cons_succ]
  refine h_val (i := 7) (v := ?_) rfl (by kernel_rfl) (by kernel_rfl) (by kernel_rfl) (fun _ _ _ h => h) rfl ?_ hS ?_
  rotate_left
  · intro W hW
    go_simp
    try exact rfl
  try simp only [Act.put, List.getElem_toArray, List.getElem_cons_zero, List.getElem_cons_succ, List.setIfInBounds_toArray, List.set_cons_zero, List.set_cons_succ]
  refine h_val (i := 8) (v := ?_) rfl (by kernel_rfl) (by kernel_rfl) (by kernel_rfl) (fun _ _ _ h => h) rfl ?_ hS ?_
  rotate_left
  · intro W hW
    go_simp
    try exact rfl
  try simp only [Act.put, List.getElem_toArray, List.getElem_cons_zero, List.getElem_cons_succ, List.setIfInBounds_toArray, List.set_cons_zero, List.set_cons_succ]
  refine h_val (i := 9) (v := ?_) rfl (by kernel_rfl) (by kernel_rfl) (by kernel_rfl) (fun _ _ _ h => h) rfl ?_ hS ?_
  rotate_left
  · intro W hW
    go_simp
    try exact rfl
  try simp only [Act.put, List.getElem_toArray, List.getElem_cons_zero, List.getElem_cons_succ, List.setIfInBounds_toArray, List.set_cons_zero, List.set_cons_succ]
  refine h_val (i := 10) (v := ?_) rfl (by kernel_rfl) (by kernel_rfl) (by kernel_rfl) (fun _ _ _ h => h) rfl ?_ hS ?_
  rotate_left
  · intro W hW
    go_simp
    try exact rfl
  try simp only [Act.put, List.getElem_toArray, List.getElem_cons_zero, List.getElem_cons_succ, List.setIfInBounds_toArray, List.set_cons_zero, List.set_cons_succ]
  refine h_val (i := 11) (v := ?_) rfl (by kernel_rfl) (by kernel_rfl) (by kernel_rfl) (fun _ _ _ h => h) rfl ?_ hS ?_
  rotate_left
  · intro W hW
    go_simp
    try exact rfl
  try simp only [Act.put, List.getElem_toArray, List.getElem_cons_zero, List.getElem_cons_succ, List.setIfInBounds_toArray, List.set_cons_zero, List.set_cons_succ]
  refine wpAnyH_done (by kernel_rfl) ?_ _
  have hB := Lib.hid hS
  replace hK1 := Lib.hid ((hK1.out.below hS).mono hS.size)
  replace hK2 := Lib.hid ((hK2.out.below hS).mono hS.size)
  clear hS
  generalize ({ w with drawn := w.drawn + 1 } : World) = V at hB hK1 hK2 ⊢
  have b1 := sset_length p1
  have b2 := sset_length p2
  have b4 := mrg_length kU (sset p1) (sset p2)
  have b5 := mrg_kM_length (sset p1) (sset p2)
  have b6 := mrg_kB_length (sset p1) (sset p2)
  have b7 := pck_length p1 p2 false
  have b8 := pck_length p1 p2 true
  have b9 := sset_length (pck p1 p2 false)
  have b10 := sset_length (pck p1 p2 true)
  have b11 := sset_length (p1 ++ p2)
  rw [List.length_append] at b11
  go_wp2_with fail
  refine (Try.to p1 (by omega) _ _ hK1.out).mono ?_
  rintro e W1 ⟨v1, rfl, hN, hb⟩
  replace hK1 := Lib.hid ((hK1.out.below hb).mono hb.size)
  replace hK2 := Lib.hid ((hK2.out.below hb).mono hb.size)
  replace hB := Lib.hid (hB.out.trans (hb.mono hB.out.size))
  have hX := Lib.hid (ids_own hN)
  clear hN
  clear hb
  go_wp2_with fail
  refine (Try.to p2 (by omega) _ _ hK2.out).mono ?_
  rintro e W2 ⟨v2, rfl, hN, hb⟩
  replace hK1 := Lib.hid ((hK1.out.below hb).mono hb.size)
  replace hK2 := Lib.hid ((hK2.out.below hb).mono hb.size)
  replace hX := Lib.hid ((hX.out.below hb).mono hb.size)
  replace hB := Lib.hid (hB.out.trans (hb.mono hB.out.size))
  have hY := Lib.hid (ids_own hN)
  clear hN
  clear hb
  go_wp2_with fail
  refine (c0 _).mono ?_
  rintro e W3 ⟨rfl, hb⟩
  replace hK1 := Lib.hid ((hK1.out.below hb).mono hb.size)
  replace hK2 := Lib.hid ((hK2.out.below hb).mono hb.size)
  replace hX := Lib.hid ((hX.out.below hb).mono hb.size)
  replace hY := Lib.hid ((hY.out.below hb).mono hb.size)
  replace hB := Lib.hid (hB.out.trans (hb.mono hB.out.size))
  clear hb
  go_wp2_with fail
  refine (Try.set p1 (by omega) _ _ hK1.out).mono ?_
  rintro e W4 ⟨v4, rfl, hN, hb⟩
  replace hK1 := Lib.hid ((hK1.out.below hb).mono hb.size)
  replace hK2 := Lib.hid ((hK2.out.below hb).mono hb.size)
  replace hX := Lib.hid ((hX.out.below hb).mono hb.size)
  replace hY := Lib.hid ((hY.out.below hb).mono hb.size)
  replace hB := Lib.hid (hB.out.trans (hb.mono hB.out.size))
  have hP := Lib.hid hN.ids
  clear hN
  clear hb
  go_wp2_with fail
  refine (Try.rSet p1 (by omega) _ _ hX.out).mono ?_
  rintro e W5 ⟨v5, rfl, hN, hb⟩
  replace hK1 := Lib.hid ((hK1.out.below hb).mono hb.size)
  replace hK2 := Lib.hid ((hK2.out.below hb).mono hb.size)
  replace hX := Lib.hid ((hX.out.below hb).mono hb.size)
  replace hY := Lib.hid ((hY.out.below hb).mono hb.size)
  replace hP := Lib.hid ((hP.out.below hb).mono hb.size)
  replace hB := Lib.hid (hB.out.trans (hb.mono hB.out.size))
  have hQ := Lib.hid (ids_own hN)
  clear hN
  clear hb
  have q1 := decide_eq_true ((rfl : sset p1 = sset p1))
  have hE := (Try.equal _ _ (by omega) (by omega) _ _ _ hP.out hQ.out).mono (fun e w' (h : e = _ ∧ _) => (⟨by rw [h.1, q1], h.2⟩ : e = .returned (.bool true) ∧ _))
  clear q1
  go_wp2_with fail
  refine (hE).mono ?_
  rintro e W6 ⟨rfl, hb⟩
  replace hK1 := Lib.hid ((hK1.out.below hb).mono hb.size)
  replace hK2 := Lib.hid ((hK2.out.below hb).mono hb.size)
  replace hX := Lib.hid ((hX.out.below hb).mono hb.size)
  replace hY := Lib.hid ((hY.out.below hb).mono hb.size)
  replace hB := Lib.hid (hB.out.trans (hb.mono hB.out.size))
  clear hb
  clear hE hP hQ
  go_wp2_with fail
  refine (Try.union p1 p2 (by omega) (by omega) _ _ _ hK1.out hK2.out).mono ?_
  rintro e W7 ⟨v7, rfl, hN, hb⟩
  replace hK1 := Lib.hid ((hK1.out.below hb).mono hb.size)
  replace hK2 := Lib.hid ((hK2.out.below hb).mono hb.size)
  replace hX := Lib.hid ((hX.out.below hb).mono hb.size)
  replace hY := Lib.hid ((hY.out.below hb).mono hb.size)
  replace hB := Lib.hid (hB.out.trans (hb.mono hB.out.size))
  have hP := Lib.hid hN
  clear hN
  clear hb
  go_wp2_with fail
  refine (Try.to p1 (by omega) _ _ hK1.out).mono ?_
  rintro e W20 ⟨v20, rfl, hN, hb⟩
  have hYY := Lib.hid (hY.out.below hb)
  have hNN := Lib.hid hN
  clear hN
  go_wp2_with (refine x_appids Try.arrRId Try.underlying47 Try.infoRId rfl _ _ rfl _ _ _ _ rfl hNN.out _ p2 rfl hYY.out (by omega) hb.size ?_)
  intro v21 W21 hO21 hg21
  have hb21 := hb.grown hg21 hb.size (fun j e => (hNN.out.lt j e).1)
  replace hK1 := Lib.hid ((hK1.out.below hb21).mono hb21.size)
  replace hK2 := Lib.hid ((hK2.out.below hb21).mono hb21.size)
  replace hX := Lib.hid ((hX.out.below hb21).mono hb21.size)
  replace hY := Lib.hid ((hY.out.below hb21).mono hb21.size)
  replace hP := Lib.hid ((hP.out.below hb21).mono hb21.size)
  replace hB := Lib.hid (hB.out.trans (hb21.mono hB.out.size))
  have hA := Lib.hid (ids_own (zs := p1 ++ p2) (by rw [List.length_append]; simpa [flat] using hO21))
  clear hb hb21 hYY hNN hg21 hO21
  go_wp2_with fail
  refine (Try.rSet (p1 ++ p2) (by rw [List.length_append]; omega) _ _ hA.out).mono ?_
  rintro e W8 ⟨v8, rfl, hN, hb⟩
  replace hK1 := Lib.hid ((hK1.out.below hb).mono hb.size)
  replace hK2 := Lib.hid ((hK2.out.below hb).mono hb.size)
  replace hX := Lib.hid ((hX.out.below hb).mono hb.size)
  replace hY := Lib.hid ((hY.out.below hb).mono hb.size)
  replace hP := Lib.hid ((hP.out.below hb).mono hb.size)
  replace hB := Lib.hid (hB.out.trans (hb.mono hB.out.size))
  have hQ := Lib.hid (ids_own hN)
  clear hN
  clear hb
  clear hA
  have q1 := decide_eq_true (sets1 p1 p2)
  have hE := (Try.equal _ _ (by omega) (by omega) _ _ _ hP.out hQ.out).mono (fun e w' (h : e = _ ∧ _) => (⟨by rw [h.1, q1], h.2⟩ : e = .returned (.bool true) ∧ _))
  clear q1
  go_wp2_with fail
  refine (hE).mono ?_
  rintro e W9 ⟨rfl, hb⟩
  replace hK1 := Lib.hid ((hK1.out.below hb).mono hb.size)
  replace hK2 := Lib.hid ((hK2.out.below hb).mono hb.size)
  replace hX := Lib.hid ((hX.out.below hb).mono hb.size)
  replace hY := Lib.hid ((hY.out.below hb).mono hb.size)
  replace hB := Lib.hid (hB.out.trans (hb.mono hB.out.size))
  clear hb
  clear hE hP hQ
  go_wp2_with fail
  refine (Try.minus p1 p2 (by omega) (by omega) _ _ _ hK1.out hK2.out).mono ?_
  rintro e W10 ⟨v10, rfl, hN, hb⟩
  replace hK1 := Lib.hid ((hK1.out.below hb).mono hb.size)
  replace hK2 := Lib.hid ((hK2.out.below hb).mono hb.size)
  replace hX := Lib.hid ((hX.out.below hb).mono hb.size)
  replace hY := Lib.hid ((hY.out.below hb).mono hb.size)
  replace hB := Lib.hid (hB.out.trans (hb.mono hB.out.size))
  have hP := Lib.hid hN
  clear hN
  clear hb
  go_wp2_with fail
  refine (Try.rPick p1 p2 (by omega) (by omega) false _ _ _ hX.out hY.out).mono ?_
  rintro e W11 ⟨v11, rfl, hN, hb⟩
  replace hK1 := Lib.hid ((hK1.out.below hb).mono hb.size)
  replace hK2 := Lib.hid ((hK2.out.below hb).mono hb.size)
  replace hX := Lib.hid ((hX.out.below hb).mono hb.size)
  replace hY := Lib.hid ((hY.out.below hb).mono hb.size)
  replace hP := Lib.hid ((hP.out.below hb).mono hb.size)
  replace hB := Lib.hid (hB.out.trans (hb.mono hB.out.size))
  have hQ := Lib.hid (ids_own hN)
  clear hN
  clear hb
  have q1 := decide_eq_true (sets2 p1 p2)
  have hE := (Try.equal _ _ (by omega) (by omega) _ _ _ hP.out hQ.out).mono (fun e w' (h : e = _ ∧ _) => (⟨by rw [h.1, q1], h.2⟩ : e = .returned (.bool true) ∧ _))
  clear q1
  go_wp2_with fail
  refine (hE).mono ?_
  rintro e W12 ⟨rfl, hb⟩
  replace hK1 := Lib.hid ((hK1.out.below hb).mono hb.size)
  replace hK2 := Lib.hid ((hK2.out.below hb).mono hb.size)
  replace hX := Lib.hid ((hX.out.below hb).mono hb.size)
  replace hY := Lib.hid ((hY.out.below hb).mono hb.size)
  replace hB := Lib.hid (hB.out.trans (hb.mono hB.out.size))
  clear hb
  clear hE hP hQ
  go_wp2_with fail
  refine (Try.both p1 p2 (by omega) (by omega) _ _ _ hK1.out hK2.out).mono ?_
  rintro e W13 ⟨v13, rfl, hN, hb⟩
  replace hK1 := Lib.hid ((hK1.out.below hb).mono hb.size)
  replace hK2 := Lib.hid ((hK2.out.below hb).mono hb.size)
  replace hX := Lib.hid ((hX.out.below hb).mono hb.size)
  replace hY := Lib.hid ((hY.out.below hb).mono hb.size)
  replace hB := Lib.hid (hB.out.trans (hb.mono hB.out.size))
  have hP := Lib.hid hN
  clear hN
  clear hb
  go_wp2_with fail
  refine (Try.rPick p1 p2 (by omega) (by omega) true _ _ _ hX.out hY.out).mono ?_
  rintro e W14 ⟨v14, rfl, hN, hb⟩
  replace hK1 := Lib.hid ((hK1.out.below hb).mono hb.size)
  replace hK2 := Lib.hid ((hK2.out.below hb).mono hb.size)
  replace hX := Lib.hid ((hX.out.below hb).mono hb.size)
  replace hY := Lib.hid ((hY.out.below hb).mono hb.size)
  replace hP := Lib.hid ((hP.out.below hb).mono hb.size)
  replace hB := Lib.hid (hB.out.trans (hb.mono hB.out.size))
  have hQ := Lib.hid (ids_own hN)
  clear hN
  clear hb
  have q1 := decide_eq_true (sets3 p1 p2)
  have hE := (Try.equal _ _ (by omega) (by omega) _ _ _ hP.out hQ.out).mono (fun e w' (h : e = _ ∧ _) => (⟨by rw [h.1, q1], h.2⟩ : e = .returned (.bool true) ∧ _))
  clear q1
  go_wp2_with fail
  refine (hE).mono ?_
  rintro e W15 ⟨rfl, hb⟩
  replace hB := Lib.hid (hB.out.trans (hb.mono hB.out.size))
  clear hb
  clear hE hP hQ
  go_wp2
  go_ret
  exact ⟨rfl, hB.out⟩
end Go.Proofs
