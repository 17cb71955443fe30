/- the law MsgidAlgebra: for every three lists it answers true; it leaves all that was there as it was -/
import Derived.Test.YtfgadmiencgmgaaAlg
namespace Go.Proofs
open Go.RowKit Go.Shelf XK Go.Sort
set_option linter.unusedVariables false
set_option linter.unusedSimpArgs false
namespace XK
theorem mrg_kM_length (a b : List I32) : (mrg kM a b).length ≤ a.length := by
  fun_induction mrg kM a b <;> simp_all [kM] <;> omega
theorem mrg_kB_length (a b : List I32) : (mrg kB a b).length ≤ a.length := by
  fun_induction mrg kB a b <;> simp_all [kB] <;> omega
/-- a list cut to k -/
theorem Ids.cut {w : World} {zs : List I32} {a : Option Addr} {n cap : Nat} (k : Nat) (hnz : n = zs.length) (hI : Ids w.heap.size w (.slice a n cap) zs) {m : Nat} (hm : (min (n : Int) k).toNat = m) :
    Ids w.heap.size w (.slice a m cap) (zs.take k) ∧ (zs.take k).length ≤ k := by
  have hml : (zs.take k).length = m := by rw [List.length_take, ← hnz, ← hm]; omega
  refine ⟨?_, by rw [List.length_take]; omega⟩
  rcases hI with ⟨⟨a', cap', he⟩, rfl⟩ | ⟨b, off, cap', he, hb, hc⟩
  · cases he
    exact .inl ⟨⟨a, cap, by rw [← hml]; simp⟩, by simp⟩
  · cases he
    rw [← hml]
    exact Ids.take hb hc k
end XK
set_option maxRecDepth 100000 in
set_option maxHeartbeats 4000000 in
theorem Try.msgidAlgebra (zs ys xs : List I32) (a1 a2 a3 : Option Addr) (n1 n2 n3 c1 c2 c3 : Nat) (e1 : n1 = zs.length) (e2 : n2 = ys.length) (e3 : n3 = xs.length) (hc1 : n1 ≤ c1) (hc2 : n2 ≤ c2) (hc3 : n3 ≤ c3) (w : World)
    (hI1 : Ids w.heap.size w (.slice a1 n1 c1) zs) (hI2 : Ids w.heap.size w (.slice a2 n2 c2) ys) (hI3 : Ids w.heap.size w (.slice a3 n3 c3) xs) :
    Calls Try.prog 10 #[.slice a1 n1 c1, .slice a2 n2 c2, .slice a3 n3 c3] w fun e w' => e = .returned (.bool true) ∧ Go.RowKit.Below w.heap.size w w' := by
  obtain ⟨m1, hm1⟩ : ∃ m, (min (n1 : Int) 20).toNat = m := ⟨_, rfl⟩
  obtain ⟨hJ1, hL1⟩ := Ids.cut 20 e1 hI1 hm1
  have s10 : (0 : Int) ≤ min (n1 : Int) 20 := by omega
  have s11 : min (n1 : Int) 20 ≤ c1 := by omega
  have s12 : min (n1 : Int) 20 ≤ n1 := by omega
  generalize zs.take 20 = p1 at hJ1 hL1
  have hK1 := Lib.hid hJ1
  obtain ⟨m2, hm2⟩ : ∃ m, (min (n2 : Int) 20).toNat = m := ⟨_, rfl⟩
  obtain ⟨hJ2, hL2⟩ := Ids.cut 20 e2 hI2 hm2
  have s20 : (0 : Int) ≤ min (n2 : Int) 20 := by omega
  have s21 : min (n2 : Int) 20 ≤ c2 := by omega
  have s22 : min (n2 : Int) 20 ≤ n2 := by omega
  generalize ys.take 20 = p2 at hJ2 hL2
  have hK2 := Lib.hid hJ2
  obtain ⟨m3, hm3⟩ : ∃ m, (min (n3 : Int) 20).toNat = m := ⟨_, rfl⟩
  obtain ⟨hJ3, hL3⟩ := Ids.cut 20 e3 hI3 hm3
  have s30 : (0 : Int) ≤ min (n3 : Int) 20 := by omega
  have s31 : min (n3 : Int) 20 ≤ c3 := by omega
  have s32 : min (n3 : Int) 20 ≤ n3 := by omega
  generalize xs.take 20 = p3 at hJ3 hL3
  have hK3 := Lib.hid hJ3
  clear hI1 hI2 hI3 hJ1 hJ2 hJ3 e1 e2 e3
  have c0 := Try.known
  go_enter Try.func10, Try.ntmps10
  go_wp2_with fail
  refine wp_region_held (S := fun w' => Go.RowKit.Below w.heap.size w w') (by kernel_rfl) ?_
  have hS : Go.RowKit.Below w.heap.size w { w with drawn := w.drawn + 1 } := (Go.RowKit.Below.refl _ _).drew
  refine h_val (i := 0) (v := ?_) rfl (by kernel_rfl) (by kernel_rfl) (by kernel_rfl) (fun _ _ _ h => h) rfl ?_ hS ?_
  rotate_left
  · intro W hW
    go_simp
    try exact rfl
  try simp only [Act.put, List.getElem_toArray, List.getElem_cons_zero, List.getElem_cons_succ, List.setIfInBounds_toArray, List.set_cons_zero, List.set_cons_succ]
  refine h_val (i := 1) (v := ?_) rfl (by kernel_rfl) (by kernel_rfl) (by kernel_rfl) (fun _ _ _ h => h) rfl ?_ hS ?_
  rotate_left
  · intro W hW
    go_simp
    try exact rfl
  try simp only [Act.put, List.getElem_toArray, List.getElem_cons_zero, List.getElem_cons_succ, List.setIfInBounds_toArray, List.set_cons_zero, List.set_cons_succ]
  refine h_val (i := 2) (v := ?_) rfl (by kernel_rfl) (by kernel_rfl) (by kernel_rfl) (fun _ _ _ h => h) rfl ?_ hS ?_
  rotate_left
  · intro W hW
    go_simp
    try exact rfl
  try simp only [Act.put, List.getElem_toArray, List.getElem_cons_zero, List.getElem_cons_succ, List.setIfInBounds_toArray, List.set_cons_zero, List.set_cons_succ]
  refine h_val (i := 3) (v := ?_) rfl (by kernel_rfl) (by kernel_rfl) (by kernel_rfl) (fun _ _ _ h => h) rfl ?_ hS ?_
  rotate_left
  · intro W hW
    go_simp
    try exact rfl
  try simp only [Act.put, List.getElem_toArray, List.getElem_cons_zero, List.getElem_cons_succ, List.setIfInBounds_toArray, List.set_cons_zero, List.set_cons_succ]
  refine h_val (i := 4) (v := ?_) rfl (by kernel_rfl) (by kernel_rfl) (by kernel_rfl) (fun _ _ _ h => h) rfl ?_ hS ?_
  rotate_left
  · intro W hW
    go_simp
    try exact rfl
  try simp only [Act.put, List.getElem_toArray, List.getElem_cons_zero, List.getElem_cons_succ, List.setIfInBounds_toArray, List.set_cons_zero, List.set_cons_succ]
  refine h_val (i := 5) (v := ?_) rfl (by kernel_rfl) (by kernel_rfl) (by kernel_rfl) (fun _ _ _ h => h) rfl ?_ hS ?_
  rotate_left
  · intro W hW
    go_simp
    try exact rfl
  try simp only [Act.put, List.getElem_toArray, List.getElem_cons_zero, List.getElem_cons_succ, List.setIfInBounds_toArray, List.set_cons_zero, List.set_cons_succ]
  refine h_val (i := 6) (v := ?_) rfl (by kernel_rfl) (by kernel_rfl) (by kernel_rfl) (fun _ _ _ h => h) rfl ?_ hS ?_
  rotate_left
  · intro W hW
    go_simp
    try exact rfl
  try simp only [Act.put, List.getElem_toArray, List.getElem_cons_zero, List.getElem_cons_succ, List.setIfInBounds_toArray, List.set_cons_zero, List.set_cons_succ]
  refine h_val (i := 7) (v := ?_) rfl (by kernel_rfl) (by kernel_rfl) (by kernel_rfl) (fun _ _ _ h => h) rfl ?_ hS ?_
  rotate_left
  · intro W hW
    go_simp
    try exact rfl
  try simp only [Act.put, List.getElem_toArray, List.getElem_cons_zero, List.getElem_cons_succ, List.setIfInBounds_toArray, List.set_cons_zero, List.set_cons_succ]
  refine h_val (i := 8) (v := ?_) rfl (by kernel_rfl) (by kernel_rfl) (by kernel_rfl) (fun _ _ _ h => h) rfl ?_ hS ?_
  rotate_left
  · intro W hW
    go_simp
    try exact rfl
  try simp only [Act.put, List.getElem_toArray, List.getElem_cons_zero, List.getElem_cons_succ, List.setIfInBounds_toArray, List.set_cons_zero, List.set_cons_succ]
  refine h_val (i := 9) (v := ?_) rfl (by kernel_rfl) (by kernel_rfl) (by kernel_rfl) (fun _ _ _ h => h) rfl ?_ hS ?_
  rotate_left
  · intro W hW
    go_simp
    try exact rfl
  try simp only [Act.put, List.getElem_toArray, List.getElem_cons_zero, List.getElem_cons_succ, List.setIfInBounds_toArray, List.set_cons_zero, List.set_cons_succ]
  refine h_val (i := 10) (v := ?_) rfl (by kernel_rfl) (by kernel_rfl) (by kernel_rfl) (fun _ _ _ h => h) rfl ?_ hS ?_
  rotate_left
  · intro W hW
    go_simp
    try exact rfl
  try simp only [Act.put, List.getElem_toArray, List.getElem_cons_zero, List.getElem_cons_succ, List.setIfInBounds_toArray, List.set_cons_zero, List.set_cons_succ]
  refine h_val (i := 11) (v := ?_) rfl (by kernel_rfl) (by kernel_rfl) (by kernel_rfl) (fun _ _ _ h => h) rfl ?_ hS ?_
  rotate_left
  · intro W hW
    go_simp
    try exact rfl
  try simp only [Act.put, List.getElem_toArray, List.getElem_cons_zero, List.getElem_cons_succ, List.setIfInBounds_toArray, List.set_cons_zero, List.set_cons_succ]
  refine h_val (i := 12) (v := ?_) rfl (by kernel_rfl) (by kernel_rfl) (by kernel_rfl) (fun _ _ _ h => h) rfl ?_ hS ?_
  rotate_left
  · intro W hW
    go_simp
    try exact rfl
  try simp only [Act.put, List.getElem_toArray, List.getElem_cons_zero, List.getElem_cons_succ, List.setIfInBounds_toArray, List.set_cons_zero, List.set_cons_succ]
  refine h_val (i := 13) (v := ?_) rfl (by kernel_rfl) (by kernel_rfl) (by kernel_rfl) (fun _ _ _ h => h) rfl ?_ hS ?_
  rotate_left
  · intro W hW
    go_simp
    try exact rfl
  try simp only [Act.put, List.getElem_toArray, List.getElem_cons_zero, List.getElem_cons_succ, List.setIfInBounds_toArray, List.set_cons_zero, List.set_cons_succ]
  refine h_val (i := 14) (v := ?_) rfl (by kernel_rfl) (by kernel_rfl) (by kernel_rfl) (fun _ _ _ h => h) rfl ?_ hS ?_
  rotate_left
  · intro W hW
    go_simp
    try exact rfl
  try simp only [Act.put, List.getElem_toArray, List.getElem_cons_zero, List.getElem_cons_succ, List.setIfInBounds_toArray, List.set_cons_zero, List.set_cons_succ]
  refine h_val (i := 15) (v := ?_) rfl (by kernel_rfl) (by kernel_rfl) (by kernel_rfl) (fun _ _ _ h => h) rfl ?_ hS ?_
  rotate_left
  · intro W hW
    go_simp
    try exact rfl
  try simp only [Act.put, List.getElem_toArray, List.getElem_cons_zero, List.getElem_cons_succ, List.setIfInBounds_toArray, List.set_cons_zero, List.set_cons_succ]
  refine h_val (i := 16) (v := ?_) rfl (by kernel_rfl) (by kernel_rfl) (by kernel_rfl) (fun _ _ _ h => h) rfl ?_ hS ?_
  rotate_left
  · intro W hW
    go_simp
    try exact rfl
  try simp only [Act.put, List.getElem_toArray, List.getElem_cons_zero, List.getElem_cons_succ, List.setIfInBounds_toArray, List.set_cons_zero, List.set_cons_succ]
  refine h_val (i := 17) (v := ?_) rfl (by kernel_rfl) (by kernel_rfl) (by kernel_rfl) (fun _ _ _ h => h) rfl ?_ hS ?_
  rotate_left
  · intro W hW
    go_simp
    try exact rfl
  try simp only [Act.put, List.getElem_toArray, List.getElem_cons_zero, List.getElem_cons_succ, List.setIfInBounds_toArray, List.set_cons_zero, List.set_cons_succ]
  refine wpAnyH_done (by kernel_rfl) ?_ _
  have hB := Lib.hid hS
  replace hK1 := Lib.hid ((hK1.out.below hS).mono hS.size)
  replace hK2 := Lib.hid ((hK2.out.below hS).mono hS.size)
  replace hK3 := Lib.hid ((hK3.out.below hS).mono hS.size)
  clear hS
  generalize ({ w with drawn := w.drawn + 1 } : World) = V at hB hK1 hK2 hK3 ⊢
  have b1 := sset_length p1
  have b2 := sset_length p2
  have b3 := sset_length p3
  have b4 := mrg_length kU (sset p2) (sset p3)
  have b5 := mrg_kM_length (sset p1) (sset (mrg kU (sset p2) (sset p3)))
  have b6 := mrg_kM_length (sset p1) (sset p2)
  have b7 := sset_length (mrg kM (sset p1) (sset p2))
  have b8 := mrg_kM_length (sset (mrg kM (sset p1) (sset p2))) (sset p3)
  have b9 := mrg_kB_length (sset p1) (sset p2)
  have b10 := sset_length (mrg kB (sset p1) (sset p2))
  have b11 := mrg_length kU (sset (mrg kB (sset p1) (sset p2))) (sset (mrg kM (sset p1) (sset p2)))
  go_wp2_with fail
  refine (c0 _).mono ?_
  rintro e W1 ⟨rfl, hb⟩
  replace hK1 := Lib.hid ((hK1.out.below hb).mono hb.size)
  replace hK2 := Lib.hid ((hK2.out.below hb).mono hb.size)
  replace hK3 := Lib.hid ((hK3.out.below hb).mono hb.size)
  replace hB := Lib.hid (hB.out.trans (hb.mono hB.out.size))
  clear hb
  go_wp2_with fail
  refine (Try.union p2 p3 (by omega) (by omega) _ _ _ hK2.out hK3.out).mono ?_
  rintro e W2 ⟨v2, rfl, hN, hb⟩
  replace hK1 := Lib.hid ((hK1.out.below hb).mono hb.size)
  replace hK2 := Lib.hid ((hK2.out.below hb).mono hb.size)
  replace hK3 := Lib.hid ((hK3.out.below hb).mono hb.size)
  replace hB := Lib.hid (hB.out.trans (hb.mono hB.out.size))
  have hU := Lib.hid hN
  clear hN
  clear hb
  go_wp2_with fail
  refine (Try.minus p1 _ (by omega) (by omega) _ _ _ hK1.out hU.out).mono ?_
  rintro e W3 ⟨v3, rfl, hN, hb⟩
  replace hK1 := Lib.hid ((hK1.out.below hb).mono hb.size)
  replace hK2 := Lib.hid ((hK2.out.below hb).mono hb.size)
  replace hK3 := Lib.hid ((hK3.out.below hb).mono hb.size)
  replace hB := Lib.hid (hB.out.trans (hb.mono hB.out.size))
  have hM := Lib.hid hN
  clear hN
  clear hb
  clear hU
  go_wp2_with fail
  refine (Try.minus p1 p2 (by omega) (by omega) _ _ _ hK1.out hK2.out).mono ?_
  rintro e W4 ⟨v4, rfl, hN, hb⟩
  replace hK1 := Lib.hid ((hK1.out.below hb).mono hb.size)
  replace hK2 := Lib.hid ((hK2.out.below hb).mono hb.size)
  replace hK3 := Lib.hid ((hK3.out.below hb).mono hb.size)
  replace hM := Lib.hid ((hM.out.below hb).mono hb.size)
  replace hB := Lib.hid (hB.out.trans (hb.mono hB.out.size))
  have hM2 := Lib.hid hN
  clear hN
  clear hb
  go_wp2_with fail
  refine (Try.minus _ p3 (by omega) (by omega) _ _ _ hM2.out hK3.out).mono ?_
  rintro e W5 ⟨v5, rfl, hN, hb⟩
  replace hK1 := Lib.hid ((hK1.out.below hb).mono hb.size)
  replace hK2 := Lib.hid ((hK2.out.below hb).mono hb.size)
  replace hK3 := Lib.hid ((hK3.out.below hb).mono hb.size)
  replace hM := Lib.hid ((hM.out.below hb).mono hb.size)
  replace hB := Lib.hid (hB.out.trans (hb.mono hB.out.size))
  have hM3 := Lib.hid hN
  clear hN
  clear hb
  clear hM2
  go_wp2_with fail
  refine (Try.to _ (by omega) _ _ hM3.out).mono ?_
  rintro e W6 ⟨v6, rfl, hN, hb⟩
  replace hK1 := Lib.hid ((hK1.out.below hb).mono hb.size)
  replace hK2 := Lib.hid ((hK2.out.below hb).mono hb.size)
  replace hK3 := Lib.hid ((hK3.out.below hb).mono hb.size)
  replace hM := Lib.hid ((hM.out.below hb).mono hb.size)
  replace hB := Lib.hid (hB.out.trans (hb.mono hB.out.size))
  have hT := Lib.hid (ids_own hN)
  clear hN
  clear hb
  clear hM3
  have q1 := decide_eq_true (algebra1 p1 p2 p3)
  have hE := (Try.equal _ _ (by omega) (by omega) _ _ _ hM.out hT.out).mono (fun e w' (h : e = _ ∧ _) => (⟨by rw [h.1, q1], h.2⟩ : e = .returned (.bool true) ∧ _))
  clear q1
  go_wp2_with fail
  refine (hE).mono ?_
  rintro e W7 ⟨rfl, hb⟩
  replace hK1 := Lib.hid ((hK1.out.below hb).mono hb.size)
  replace hK2 := Lib.hid ((hK2.out.below hb).mono hb.size)
  replace hK3 := Lib.hid ((hK3.out.below hb).mono hb.size)
  replace hB := Lib.hid (hB.out.trans (hb.mono hB.out.size))
  clear hb
  clear hE hM hT
  go_wp2_with fail
  refine (Try.both p1 p2 (by omega) (by omega) _ _ _ hK1.out hK2.out).mono ?_
  rintro e W8 ⟨v8, rfl, hN, hb⟩
  replace hK1 := Lib.hid ((hK1.out.below hb).mono hb.size)
  replace hK2 := Lib.hid ((hK2.out.below hb).mono hb.size)
  replace hK3 := Lib.hid ((hK3.out.below hb).mono hb.size)
  replace hB := Lib.hid (hB.out.trans (hb.mono hB.out.size))
  have hBo := Lib.hid hN
  clear hN
  clear hb
  go_wp2_with fail
  refine (Try.minus p1 p2 (by omega) (by omega) _ _ _ hK1.out hK2.out).mono ?_
  rintro e W9 ⟨v9, rfl, hN, hb⟩
  replace hK1 := Lib.hid ((hK1.out.below hb).mono hb.size)
  replace hK2 := Lib.hid ((hK2.out.below hb).mono hb.size)
  replace hK3 := Lib.hid ((hK3.out.below hb).mono hb.size)
  replace hBo := Lib.hid ((hBo.out.below hb).mono hb.size)
  replace hB := Lib.hid (hB.out.trans (hb.mono hB.out.size))
  have hMi := Lib.hid hN
  clear hN
  clear hb
  go_wp2_with fail
  refine (Try.union _ _ (by omega) (by omega) _ _ _ hBo.out hMi.out).mono ?_
  rintro e W10 ⟨v10, rfl, hN, hb⟩
  replace hK1 := Lib.hid ((hK1.out.below hb).mono hb.size)
  replace hK2 := Lib.hid ((hK2.out.below hb).mono hb.size)
  replace hK3 := Lib.hid ((hK3.out.below hb).mono hb.size)
  replace hB := Lib.hid (hB.out.trans (hb.mono hB.out.size))
  have hUn := Lib.hid hN
  clear hN
  clear hb
  clear hBo hMi
  go_wp2_with fail
  refine (Try.set p1 (by omega) _ _ hK1.out).mono ?_
  rintro e W11 ⟨v11, rfl, hN, hb⟩
  replace hUn := Lib.hid ((hUn.out.below hb).mono hb.size)
  replace hB := Lib.hid (hB.out.trans (hb.mono hB.out.size))
  have hSe := Lib.hid hN.ids
  clear hN
  clear hb
  clear hK1 hK2 hK3
  go_wp2_with fail
  refine (Try.to _ (by omega) _ _ hSe.out).mono ?_
  rintro e W12 ⟨v12, rfl, hN, hb⟩
  replace hUn := Lib.hid ((hUn.out.below hb).mono hb.size)
  replace hB := Lib.hid (hB.out.trans (hb.mono hB.out.size))
  have hT2 := Lib.hid (ids_own hN)
  clear hN
  clear hb
  clear hSe
  have q2 := decide_eq_true (algebra2 p1 p2)
  have hE := (Try.equal _ _ (by omega) (by omega) _ _ _ hUn.out hT2.out).mono (fun e w' (h : e = _ ∧ _) => (⟨by rw [h.1, q2], h.2⟩ : e = .returned (.bool true) ∧ _))
  clear q2
  go_wp2_with fail
  refine (hE).mono ?_
  rintro e W13 ⟨rfl, hb⟩
  replace hB := Lib.hid (hB.out.trans (hb.mono hB.out.size))
  clear hb
  go_wp2
  go_ret
  exact ⟨rfl, hB.out⟩
end Go.Proofs
