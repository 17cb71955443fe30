/- the given row of MsgidHas: the law answers true at every input, and every argument reads behind the call as it read before -/
import Derived.Test.YtfgadmiencgmgaaL8
import Derived.Test.YtfgadmiencgmgaaRowIds
namespace Go.Proofs.Ytfgadmiencgmgaa.msgidHas
open Go.ChangeShapes Go.WideShapes Go.ChangeAt Go.RowKit XK
set_option linter.unusedVariables false
theorem own : ownKnob Try.prog.godebug = none := by kernel_rfl
theorem laidOut : laidOutB Try.prog = true := by kernel_rfl
theorem rr_id : Try.prog.readableRec 23 = true := by kernel_rfl
theorem rl_id : 23 < Try.prog.types.size := of_decide_eq_true (by kernel_rfl)
theorem rr_ids : Try.prog.readableRec 45 = true := by kernel_rfl
theorem rl_ids : 45 < Try.prog.types.size := of_decide_eq_true (by kernel_rfl)
set_option maxRecDepth 100000 in
theorem lifted (os : Os) (started : os.Started) (H : Type) (enc : TypeId × Value → H) :
    ReturnsInHanded {} Try.checked os 8 .any (Rows.msgidHasSpec.pre6 enc Try.prog Try.f8 Rows.msgidHasRow.domain false) (Rows.msgidHasSpec.post enc Try.prog Try.f8 false true false false) := by
  refine returnsInHanded_of_change (C := Try.checked) own started (by kernel_rfl) Try.func8
    (ChangeSpec.witness6 (enc := enc) (C := Try.checked) false ⟨#[], #[.slice none 0 0, .agg (bv z32).toArray], []⟩ 40 (by kernel_rfl) (by kernel_rfl) (by kernel_rfl) (by kernel_rfl)) ?_
  intro W base args ds gs before hval0 hW hcnd _
  have hval : ∀ (j : Nat) t v, Try.f8.params[j]? = some t → args[j]? = some v → Value.okWide Try.prog W .any base t v := hval0
  have hW' := hW
  obtain ⟨p, q, hA0, hV, rfl, hfz, hnd⟩ := hW
  have hA : DataW.TrodAll enc Try.prog W 0 (fun _ => true) true Try.f8.params.toList args.toList ds p := hA0
  rw [Try.params8] at hA hval
  obtain ⟨v0, vs0, d0, ds0, p0, q0, hargs, rfl, rfl, h0, r0⟩ := trodAll_cons hA
  obtain ⟨v1, vs1, d1, ds1, p1, q1, rfl, rfl, rfl, h1, r1⟩ := trodAll_cons r0
  obtain ⟨rfl, rfl, rfl⟩ := trodAll_nil r1
  obtain rfl : args = #[v0, v1] := by cases args; simp_all
  obtain ⟨rfl, rfl⟩ := trodVars_none hV
  obtain ⟨z0, A0, n0, c0, rfl, e0, lc0, ln0, I0⟩ := open_ids Try.underlying45 Try.underlying23 Try.underlying5 (by kernel_rfl) (by kernel_rfl) (hval 0 _ v0 rfl rfl) h0
  obtain ⟨a1, l1, rfl⟩ := open_arr Try.underlying23 Try.underlying5 (by kernel_rfl) (by kernel_rfl) (hval 1 _ v1 rfl rfl) h1
  refine (Try.msgidHas z0 A0 n0 c0 e0 lc0 ln0 W I0 ⟨a1, l1⟩).mono fun e W' ⟨he, hb⟩ => ?_
  subst he
  exact ⟨_, rfl, _, _, _, [], _, [], hW', (trodAll_cons_mk (shut_bool (by kernel_rfl : Try.prog.underlying _ = some .bool) _) trodAll_mk0), (trodAll_cons_mk (Below.trod laidOut rr_ids rl_ids h0 hb (places_lt h0)) (trodAll_cons_mk (Below.trod laidOut rr_id rl_id h1 hb (places_lt h1)) trodAll_mk0)), rfl, hb.frame _, fun h => by cases h⟩

theorem over : Rows.msgidHasRow.holds Try.pinned (OpenSpec.ofChange Rows.msgidHasSpec) :=
  OpenClaim.holds_of_wide 8 Try.f8 rfl rfl rfl rfl rfl rfl rfl ⟨rfl, rfl, rfl, rfl, rfl⟩ rfl rfl rfl rfl rfl (by kernel_rfl) Try.func8 (by kernel_rfl)
    (of_decide_eq_true (by kernel_rfl)) (by unfold Func.isWrapper; first | (rw [if_pos (by decide +kernel)]; kernel_rfl) | (rw [if_neg (by decide +kernel)]; exact ⟨rfl, rfl⟩))
    (fun os started H enc _ => lifted os started H enc)

theorem proved : Rows.MsgidHasSaid :=
  over
#print axioms proved
end Go.Proofs.Ytfgadmiencgmgaa.msgidHas
