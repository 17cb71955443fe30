/- IsCanonical; FormatDay of both -/
import Derived.Test.YtgbpafapmbnfjaaDoorPj
import Derived.Test.YtgbpafapmbnfjaaDoorCiv
namespace Go.Proofs
open Go.RowKit Go.Shelf
set_option linter.unusedVariables false
set_option linter.unusedSimpArgs false
open TK
namespace TK
def fzs (t off : Int) : ByteArray := if okz t off = true then ⟨(txt t off).toArray⟩ else ⟨#[]⟩
def fze (t off : Int) : Nat := if okz t off = true then 0 else 2
theorem fzv_eq (t off : Int) : fzv t off = .tuple #[.string (fzs t off), .int .i64 (fze t off : Int)] := by
  unfold fzv fzs fze
  split <;> rfl
def canon (s : ByteArray) : Bool := decide ((parse s).2.2 = 0) && leq (fzs (parse s).1 0) s
def dtx (d : Int) : ByteArray := if 0 ≤ d ∧ d ≤ 73048 then ⟨(dgs 4 (Cal.ymd d).1.toNat ++ [45] ++ dgs 2 (Cal.ymd d).2.1.toNat ++ [45] ++ dgs 2 (Cal.ymd d).2.2.toNat).toArray⟩ else ⟨#[]⟩
def dte (d : Int) : Nat := if 0 ≤ d ∧ d ≤ 73048 then 0 else 2
end TK
set_option maxRecDepth 100000 in
set_option maxHeartbeats 1000000 in
theorem Tryd.dIsCanonical (s : ByteArray) (hz : s.size ≤ 1000) (w : World) (hT : Tabs w) : Calls Tryd.prog 21 #[.string s] w fun z w' => z = .returned (.bool (canon s)) ∧ Below w.heap.size w w' := by
  have hc := Tryd.dParse s hz w hT
  unfold parsev at hc
  have hcn : ∀ b, (decide ((parse s).2.2 = 0) && leq (fzs (parse s).1 0) s) = b → canon s = b := fun b h => h
  generalize parse s = r at hc hcn
  obtain ⟨n, at_, e⟩ := r
  dsimp only at hc hcn
  obtain ⟨b, hb⟩ : ∃ b, canon s = b := ⟨_, rfl⟩
  rw [hb]
  have hb' := fun _ : Unit => hb
  clear hb
  have hcn' := fun _ : Unit => hcn
  clear hcn
  have hTw := Lib.hid hT
  clear hT
  by_cases he : e = 0
  · subst he
    have hf : ∀ W, Tabs W → Calls Tryd.prog 16 #[.int .i64 n] W fun e w' => e = .returned (.tuple #[.string (fzs n 0), .int .i64 (fze n 0 : Int)]) ∧ Below W.heap.size W w' := fun W h => by
      rw [← fzv_eq]
      exact Tryd.dFormat n W h
    generalize hfz : fzs n 0 = fs at hf hcn'
    generalize fze n 0 = fe at hf
    clear hfz
    go_enter Tryd.func21, Tryd.ntmps21
    go_wp2_with fail
    refine hc.mono ?_
    rintro e W1 ⟨rfl, hb1⟩
    have hT1 := hTw.out.below hb1
    have hB1 := Lib.hid hb1
    clear hc hb1
    go_wp2_with fail
    refine (hf _ hT1).mono ?_
    rintro e W2 ⟨rfl, hb2⟩
    have hB2 : Below w.heap.size w W2 := hB1.out.trans (hb2.mono hB1.out.size)
    clear hf hT1 hb2
    go_wp2_with fail
    go_ret
    exact ⟨by rw [← hb' (), hcn' () _ rfl, ← leq_of]; rfl, hB2⟩
  · have g1 : ((e : Int) == 0) = false := beq_false_of_ne (by omega)
    go_enter Tryd.func21, Tryd.ntmps21
    go_wp2_with fail
    refine hc.mono ?_
    rintro e W1 ⟨rfl, hb1⟩
    clear hc
    go_wp2_with fail
    go_ret
    exact ⟨by rw [← hb' (), hcn' () _ rfl, decide_eq_false he]; rfl, hb1⟩
end Go.Proofs
