/- the given row of MsgidSets: the law answers true at every input, and every argument reads behind the call as it read before -/
import Derived.Test.YtfgadmiencgmgaaL9
import Derived.Test.YtfgadmiencgmgaaRowIds
namespace Go.Proofs.Ytfgadmiencgmgaa.msgidSets
open Go.ChangeShapes Go.WideShapes Go.ChangeAt Go.RowKit XK
set_option linter.unusedVariables false
theorem own : ownKnob Try.prog.godebug = none := by kernel_rfl
theorem laidOut : laidOutB Try.prog = true := by kernel_rfl
theorem rr_ids : Try.prog.readableRec 45 = true := by kernel_rfl
theorem rl_ids : 45 < Try.prog.types.size := of_decide_eq_true (by kernel_rfl)
set_option maxRecDepth 100000 in
theorem lifted (os : Os) (started : os.Started) (H : Type) (enc : TypeId × Value → H) :
    ReturnsInHanded {} Try.checked os 9 .any (Rows.msgidSetsSpec.pre6 enc Try.prog Try.f9 Rows.msgidSetsRow.domain false) (Rows.msgidSetsSpec.post enc Try.prog Try.f9 false true false false) := by
  refine returnsInHanded_of_change (C := Try.checked) own started (by kernel_rfl) Try.func9
    (ChangeSpec.witness6 (enc := enc) (C := Try.checked) false ⟨#[], #[.slice none 0 0, .slice none 0 0], []⟩ 40 (by kernel_rfl) (by kernel_rfl) (by kernel_rfl) (by kernel_rfl)) ?_
  intro W base args ds gs before hval0 hW hcnd _
  have hval : ∀ (j : Nat) t v, Try.f9.params[j]? = some t → args[j]? = some v → Value.okWide Try.prog W .any base t v := hval0
  have hW' := hW
  obtain ⟨p, q, hA0, hV, rfl, hfz, hnd⟩ := hW
  have hA : DataW.TrodAll enc Try.prog W 0 (fun _ => true) true Try.f9.params.toList args.toList ds p := hA0
  rw [Try.params9] at hA hval
  obtain ⟨v0, vs0, d0, ds0, p0, q0, hargs, rfl, rfl, h0, r0⟩ := trodAll_cons hA
  obtain ⟨v1, vs1, d1, ds1, p1, q1, rfl, rfl, rfl, h1, r1⟩ := trodAll_cons r0
  obtain ⟨rfl, rfl, rfl⟩ := trodAll_nil r1
  obtain rfl : args = #[v0, v1] := by cases args; simp_all
  obtain ⟨rfl, rfl⟩ := trodVars_none hV
  obtain ⟨z0, A0, n0, c0, rfl, e0, lc0, ln0, I0⟩ := open_ids Try.underlying45 Try.underlying23 Try.underlying5 (by kernel_rfl) (by kernel_rfl) (hval 0 _ v0 rfl rfl) h0
  obtain ⟨z1, A1, n1, c1, rfl, e1, lc1, ln1, I1⟩ := open_ids Try.underlying45 Try.underlying23 Try.underlying5 (by kernel_rfl) (by kernel_rfl) (hval 1 _ v1 rfl rfl) h1
  refine (Try.msgidSets z0 z1 A0 A1 n0 n1 c0 c1 e0 e1 lc0 lc1 W I0 I1).mono fun e W' ⟨he, hb⟩ => ?_
  subst he
  exact ⟨_, rfl, _, _, _, [], _, [], hW', (trodAll_cons_mk (shut_bool (by kernel_rfl : Try.prog.underlying _ = some .bool) _) trodAll_mk0), (trodAll_cons_mk (Below.trod laidOut rr_ids rl_ids h0 hb (places_lt h0)) (trodAll_cons_mk (Below.trod laidOut rr_ids rl_ids h1 hb (places_lt h1)) trodAll_mk0)), rfl, hb.frame _, fun h => by cases h⟩

theorem over : Rows.msgidSetsRow.holds Try.pinned (OpenSpec.ofChange Rows.msgidSetsSpec) :=
  OpenClaim.holds_of_wide 9 Try.f9 rfl rfl rfl rfl rfl rfl rfl ⟨rfl, rfl, rfl, rfl, rfl⟩ rfl rfl rfl rfl rfl (by kernel_rfl) Try.func9 (by kernel_rfl)
    (of_decide_eq_true (by kernel_rfl)) (by unfold Func.isWrapper; first | (rw [if_pos (by decide +kernel)]; kernel_rfl) | (rw [if_neg (by decide +kernel)]; exact ⟨rfl, rfl⟩))
    (fun os started H enc _ => lifted os started H enc)

theorem proved : Rows.MsgidSetsSaid :=
  over
#print axioms proved
end Go.Proofs.Ytfgadmiencgmgaa.msgidSets
